/- Chapter 09: PatchAlone's walk. -/
import Derived.Test.YtlmcfhokfiibkaaGreatDoorPaU
import Derived.Test.YtlmcfhokfiibkaaGreatDoorPcy
namespace Go.Proofs.YtlmcfhokfiibkaaGreatDoor
set_option maxRecDepth 100000
set_option maxHeartbeats 4000000
set_option linter.unusedVariables false
set_option linter.unusedSimpArgs false
open Go.RowKit

theorem find_none (v:JV) (A:Option Addr) (c0:Nat) (A':Option Addr) (c0':Nat) (s:ByteArray) (ps:List (List UInt8)) (W:World) (hv:InV W (Lo W.heap.size) v (vA v A c0 A' c0')) (hn:Rd.nv v≤1048576) (hs:s.size<4294967281) (hM:MxL W) (hp:Pt.parts s.data.toList=some ps) (hf:Pt.find false ps v=none):
  Calls Tryz.prog 23 #[.agg #[.int .i64 v.kd,.int .i64 v.nm,.string ⟨v.tx.toArray⟩,.slice A v.ls.length c0,.slice A' v.ms.length c0'],.string s] W fun e w'=>e=.returned (.tuple #[.agg #[.int .i64 0,.int .i64 0,.string ⟨#[]⟩,.slice none 0 0,.slice none 0 0],.int .i64 81])∧Fr W w':=by
 have:=pfind_is v A c0 A' c0' s W W.heap.size (Nat.le_refl _) hv hn hs hM
 refine this.mono ?_
 intro e w1 h1
 rw [hp] at h1
 have h2:FdP W.heap.size W (Pt.find false ps v) e w1:=h1
 rw [hf] at h2
 exact h2
theorem find_some (v y:JV) (A:Option Addr) (c0:Nat) (A':Option Addr) (c0':Nat) (s:ByteArray) (ps:List (List UInt8)) (W:World) (hv:InV W (Lo W.heap.size) v (vA v A c0 A' c0')) (hn:Rd.nv v≤1048576) (hs:s.size<4294967281) (hM:MxL W) (hp:Pt.parts s.data.toList=some ps) (hf:Pt.find false ps v=some y):
  Calls Tryz.prog 23 #[.agg #[.int .i64 v.kd,.int .i64 v.nm,.string ⟨v.tx.toArray⟩,.slice A v.ls.length c0,.slice A' v.ms.length c0'],.string s] W fun e w'=>(∃ E e1 E' e1',e=.returned (.tuple #[.agg #[.int .i64 y.kd,.int .i64 y.nm,.string ⟨y.tx.toArray⟩,.slice E y.ls.length e1,.slice E' y.ms.length e1'],.int .i64 0])∧InV w' (Lo w'.heap.size) y (vA y E e1 E' e1'))∧Fr W w':=by
 have:=pfind_is v A c0 A' c0' s W W.heap.size (Nat.le_refl _) hv hn hs hM
 refine this.mono ?_
 intro e w1 h1
 rw [hp] at h1
 have h2:FdP W.heap.size W (Pt.find false ps v) e w1:=h1
 rw [hf] at h2
 obtain ⟨E,e1,E',e1',rfl,hi,hfr⟩:=h2
 exact ⟨⟨E,e1,E',e1',rfl,hi.more (fun b hb=>by have:=hfr.size;rcases hb with hb | hb <;> (show b<_) <;> omega)⟩,hfr⟩
theorem find_someZ (v y:JV) (A:Option Addr) (c0:Nat) (A':Option Addr) (c0':Nat) (s:ByteArray) (ps:List (List UInt8)) (W:World) (Z:Nat) (hZ:Z≤W.heap.size) (hv:InV W (Lo Z) v (vA v A c0 A' c0')) (hn:Rd.nv v≤1048576) (hs:s.size<4294967281) (hM:MxL W) (hp:Pt.parts s.data.toList=some ps) (hf:Pt.find false ps v=some y):
  Calls Tryz.prog 23 #[.agg #[.int .i64 v.kd,.int .i64 v.nm,.string ⟨v.tx.toArray⟩,.slice A v.ls.length c0,.slice A' v.ms.length c0'],.string s] W fun e w'=>(∃ E e1 E' e1',e=.returned (.tuple #[.agg #[.int .i64 y.kd,.int .i64 y.nm,.string ⟨y.tx.toArray⟩,.slice E y.ls.length e1,.slice E' y.ms.length e1'],.int .i64 0])∧InV w' (Ne Z W w') y (vA y E e1 E' e1'))∧Fr W w':=by
 have:=pfind_is v A c0 A' c0' s W Z hZ hv hn hs hM
 refine this.mono ?_
 intro e w1 h1
 rw [hp] at h1
 have h2:FdP Z W (Pt.find false ps v) e w1:=h1
 rw [hf] at h2
 obtain ⟨E,e1,E',e1',rfl,hi,hfr⟩:=h2
 exact ⟨⟨E,e1,E',e1',rfl,hi⟩,hfr⟩
theorem PtsP.some_ {w w':World} {ps:List (List UInt8)} {e:Ending} (h:PtsP w (some ps) e w'):(∃ P c,e=.returned (.tuple #[.slice P ps.length c,.int .i64 0])∧PsC w' P ps)∧Fr w w':=by
 obtain ⟨v,rfl,hs,hf⟩:=h
 obtain ⟨P,c,rfl,hp⟩:=hs.shows
 exact ⟨⟨P,c,rfl,hp⟩,hf⟩
theorem palone_law (v p:JV) (A:Option Addr) (c0:Nat) (A':Option Addr) (c0':Nat) (C:Option Addr) (f:Nat) (C':Option Addr) (f':Nat) (w:World) (hv:InV w (Lo w.heap.size) v (vA v A c0 A' c0')) (hp:InV w (Lo w.heap.size) p (vA p C f C' f')) (hb:JV.bulk v≤1048576) (hbp:JV.bulk p≤1048576) (hT:LowTabs w) (hM:MxL w) (s:ByteArray):
  Calls Tryz.prog 8 #[vA v A c0 A' c0',vA p C f C' f',.string s] w fun e w'=>e=.returned (.bool true)∧Fr w w':=by

 have HT:=Lib.hid hT
 have HM:=Lib.hid hM
 have HA:Hid (vA v A c0 A' c0'=.agg #[.int .i64 v.kd,.int .i64 v.nm,.string ⟨v.tx.toArray⟩,.slice A v.ls.length c0,.slice A' v.ms.length c0']):=rfl
 have HAP:Hid (vA p C f C' f'=.agg #[.int .i64 p.kd,.int .i64 p.nm,.string ⟨p.tx.toArray⟩,.slice C p.ls.length f,.slice C' p.ms.length f']):=rfl
 have n1:=Pc.nv3 v
 have n2:=Pc.nv3 p
 have hkv:∀ W,Fr w W→InV W (Lo W.heap.size) v (vA v A c0 A' c0'):=fun W hW=>(hv.keep (Nat.le_refl _) hW).lo hW.size
 have hkp:∀ W,Fr w W→InV W (Lo W.heap.size) p (vA p C f C' f'):=fun W hW=>(hp.keep (Nat.le_refl _) hW).lo hW.size
 have HAW:Hid (∀ W,Fr w W→Calls Tryz.prog 9 #[] W fun e w'=>e=.returned (.bool true)∧Fr W w'):=Lib.hid (fun W hW=>awake09 W (HT.out.keep hW) (HM.out.keep hW))
 have HFW:Hid (∀ W,Fr w W→Calls Tryz.prog 10 #[.agg #[.int .i64 v.kd,.int .i64 v.nm,.string ⟨v.tx.toArray⟩,.slice A v.ls.length c0,.slice A' v.ms.length c0'],.agg #[.int .i64 p.kd,.int .i64 p.nm,.string ⟨p.tx.toArray⟩,.slice C p.ls.length f,.slice C' p.ms.length f']] W fun e w'=>(∃ b:Bool,e=.returned (.bool b))∧Fr W w'):=Lib.hid (fun W hW=>few09_is v p A c0 A' c0' C f C' f' W (hkv W hW) (hkp W hW) (by omega) (by omega))
 rcases hc1:JV.chk v 1 0 with ⟨k1,q1⟩
 rcases hc2:JV.chk p 1 0 with ⟨k2,q2⟩
 have HC1:Hid (∀ W,Fr w W→Calls Tryz.prog 16 #[.agg #[.int .i64 v.kd,.int .i64 v.nm,.string ⟨v.tx.toArray⟩,.slice A v.ls.length c0,.slice A' v.ms.length c0']] W fun e w'=>e=.returned (.int .i64 (k1:Nat))∧Fr W w'):=Lib.hid (fun W hW=>ccheck_is v A c0 A' c0' W k1 q1 (hkv W hW) hc1)
 have HC2:Hid (∀ W,Fr w W→Calls Tryz.prog 16 #[.agg #[.int .i64 p.kd,.int .i64 p.nm,.string ⟨p.tx.toArray⟩,.slice C p.ls.length f,.slice C' p.ms.length f']] W fun e w'=>e=.returned (.int .i64 (k2:Nat))∧Fr W w'):=Lib.hid (fun W hW=>ccheck_is p C f C' f' W k2 q2 (hkp W hW) hc2)

 clear HC2 hc2
 by_cases h1:k1=0
 rotate_left
 ·by_cases hz:s.size≤100
  ·have ez:¬ (100:Int)<(s.size:Int):=by omega
   have e1:((k1:Int) != 0)=true:=by rw [bne_iff_ne];omega
   clear h1
   clear hv hp hb hbp hT hM n1 n2 hkv hkp hc1
   rw [HA.out,HAP.out]
   go_enter Tryz.func8,Tryz.ntmps8
   go_upto_region 1 with fail
   have hb1:Blk ((w.alloc (.cells #[.int .i64 v.kd,.int .i64 v.nm,.string ⟨v.tx.toArray⟩,.slice A v.ls.length c0,.slice A' v.ms.length c0'] 25)).alloc (.cells #[.int .i64 p.kd,.int .i64 p.nm,.string ⟨p.tx.toArray⟩,.slice C p.ls.length f,.slice C' p.ms.length f'] 25)) w.heap.size #[.int .i64 v.kd,.int .i64 v.nm,.string ⟨v.tx.toArray⟩,.slice A v.ls.length c0,.slice A' v.ms.length c0'] 25:=(Blk.made w _ _).keep ((Fr.refl _).alloc _)
   have hb2:Blk ((w.alloc (.cells #[.int .i64 v.kd,.int .i64 v.nm,.string ⟨v.tx.toArray⟩,.slice A v.ls.length c0,.slice A' v.ms.length c0'] 25)).alloc (.cells #[.int .i64 p.kd,.int .i64 p.nm,.string ⟨p.tx.toArray⟩,.slice C p.ls.length f,.slice C' p.ms.length f'] 25)) (w.heap.size+1) #[.int .i64 p.kd,.int .i64 p.nm,.string ⟨p.tx.toArray⟩,.slice C p.ls.length f,.slice C' p.ms.length f'] 25:=boxz (Blk.made (w.alloc _) _ _)
   have hf0:Fr w ((w.alloc (.cells #[.int .i64 v.kd,.int .i64 v.nm,.string ⟨v.tx.toArray⟩,.slice A v.ls.length c0,.slice A' v.ms.length c0'] 25)).alloc (.cells #[.int .i64 p.kd,.int .i64 p.nm,.string ⟨p.tx.toArray⟩,.slice C p.ls.length f,.slice C' p.ms.length f'] 25)):=((Fr.refl w).alloc _).alloc _
   generalize ((w.alloc (.cells #[.int .i64 v.kd,.int .i64 v.nm,.string ⟨v.tx.toArray⟩,.slice A v.ls.length c0,.slice A' v.ms.length c0'] 25)).alloc (.cells #[.int .i64 p.kd,.int .i64 p.nm,.string ⟨p.tx.toArray⟩,.slice C p.ls.length f,.slice C' p.ms.length f'] 25))=W0 at hb1 hb2 hf0 ⊢
   generalize w.heap.size+1=X2 at hb2 ⊢
   obtain ⟨X1,hX1⟩:∃ X,w.heap.size=X:=⟨_,rfl⟩
   rw [hX1] at hb1 ⊢
   clear hX1
   have HB1:=Lib.hid hb1
   have HB2:=Lib.hid hb2
   have HF0:=Lib.hid hf0
   clear hb1 hb2 hf0
   go_wp2_with (first
    | (go_at_call 9;have hq:=HF3.out;refine (HAW.out _ (HF0.out.trans hq)).mono ?_;rintro e w9 ⟨rfl,hf⟩;have HF9:=Lib.hid ((HF0.out.trans hq).trans hf);clear hf hq)
    | (go_at_call 16;have hq:=HF2.out;refine (HC1.out _ (HF0.out.trans hq)).mono ?_;rintro e w3 ⟨rfl,hf⟩;obtain ⟨⟨r0,r1,r2,r3,r4⟩,_⟩:=box5 (HB2.out.keep (hq.trans hf));have HF3:=Lib.hid (hq.trans hf);clear hf hq)
    | (go_at_call 9;have hq:=HF2.out;refine (HAW.out _ (HF0.out.trans hq)).mono ?_;rintro e w9 ⟨rfl,hf⟩;have HF9:=Lib.hid ((HF0.out.trans hq).trans hf);clear hf hq)
    | (go_at_call 10;have hq:=HF1.out;refine (HFW.out _ (HF0.out.trans hq)).mono ?_;rintro e w2 ⟨⟨b,rfl⟩,hf⟩;obtain ⟨⟨q0,q1,q2,q3,q4⟩,_⟩:=box5 (HB1.out.keep (hq.trans hf));have HF2:=Lib.hid (hq.trans hf);clear hf hq;cases b)
    | (go_at_call 9;refine (HAW.out _ HF0.out).mono ?_;rintro e w1 ⟨rfl,hf⟩;obtain ⟨⟨y0,y1,y2,y3,y4⟩,_⟩:=box5 (HB1.out.keep hf);obtain ⟨⟨z0,z1,z2,z3,z4⟩,_⟩:=box5 (HB2.out.keep hf);have HF1:=Lib.hid hf;clear hf))
   all_goals go_ret
   all_goals exact ⟨rfl,HF9.out⟩
  ·have ez:(100:Int)<(s.size:Int):=by omega
   clear hv hp hb hbp hT hM n1 n2 hkv hkp hc1
   rw [HA.out,HAP.out]
   go_enter Tryz.func8,Tryz.ntmps8
   go_upto_region 1 with fail
   have hb1:Blk ((w.alloc (.cells #[.int .i64 v.kd,.int .i64 v.nm,.string ⟨v.tx.toArray⟩,.slice A v.ls.length c0,.slice A' v.ms.length c0'] 25)).alloc (.cells #[.int .i64 p.kd,.int .i64 p.nm,.string ⟨p.tx.toArray⟩,.slice C p.ls.length f,.slice C' p.ms.length f'] 25)) w.heap.size #[.int .i64 v.kd,.int .i64 v.nm,.string ⟨v.tx.toArray⟩,.slice A v.ls.length c0,.slice A' v.ms.length c0'] 25:=(Blk.made w _ _).keep ((Fr.refl _).alloc _)
   have hb2:Blk ((w.alloc (.cells #[.int .i64 v.kd,.int .i64 v.nm,.string ⟨v.tx.toArray⟩,.slice A v.ls.length c0,.slice A' v.ms.length c0'] 25)).alloc (.cells #[.int .i64 p.kd,.int .i64 p.nm,.string ⟨p.tx.toArray⟩,.slice C p.ls.length f,.slice C' p.ms.length f'] 25)) (w.heap.size+1) #[.int .i64 p.kd,.int .i64 p.nm,.string ⟨p.tx.toArray⟩,.slice C p.ls.length f,.slice C' p.ms.length f'] 25:=boxz (Blk.made (w.alloc _) _ _)
   have hf0:Fr w ((w.alloc (.cells #[.int .i64 v.kd,.int .i64 v.nm,.string ⟨v.tx.toArray⟩,.slice A v.ls.length c0,.slice A' v.ms.length c0'] 25)).alloc (.cells #[.int .i64 p.kd,.int .i64 p.nm,.string ⟨p.tx.toArray⟩,.slice C p.ls.length f,.slice C' p.ms.length f'] 25)):=((Fr.refl w).alloc _).alloc _
   generalize ((w.alloc (.cells #[.int .i64 v.kd,.int .i64 v.nm,.string ⟨v.tx.toArray⟩,.slice A v.ls.length c0,.slice A' v.ms.length c0'] 25)).alloc (.cells #[.int .i64 p.kd,.int .i64 p.nm,.string ⟨p.tx.toArray⟩,.slice C p.ls.length f,.slice C' p.ms.length f'] 25))=W0 at hb1 hb2 hf0 ⊢
   generalize w.heap.size+1=X2 at hb2 ⊢
   obtain ⟨X1,hX1⟩:∃ X,w.heap.size=X:=⟨_,rfl⟩
   rw [hX1] at hb1 ⊢
   clear hX1
   have HB1:=Lib.hid hb1
   have HB2:=Lib.hid hb2
   have HF0:=Lib.hid hf0
   clear hb1 hb2 hf0
   go_wp2_with (first
    | (go_at_call 9;have hq:=HF2.out;refine (HAW.out _ (HF0.out.trans hq)).mono ?_;rintro e w9 ⟨rfl,hf⟩;have HF9:=Lib.hid ((HF0.out.trans hq).trans hf);clear hf hq)
    | (go_at_call 10;have hq:=HF1.out;refine (HFW.out _ (HF0.out.trans hq)).mono ?_;rintro e w2 ⟨⟨b,rfl⟩,hf⟩;obtain ⟨⟨q0,q1,q2,q3,q4⟩,_⟩:=box5 (HB1.out.keep (hq.trans hf));have HF2:=Lib.hid (hq.trans hf);clear hf hq;cases b)
    | (go_at_call 9;refine (HAW.out _ HF0.out).mono ?_;rintro e w1 ⟨rfl,hf⟩;obtain ⟨⟨y0,y1,y2,y3,y4⟩,_⟩:=box5 (HB1.out.keep hf);obtain ⟨⟨z0,z1,z2,z3,z4⟩,_⟩:=box5 (HB2.out.keep hf);have HF1:=Lib.hid hf;clear hf))
   all_goals go_ret
   all_goals exact ⟨rfl,HF9.out⟩
 subst h1
 by_cases hz:s.size≤100
 rotate_left
 ·have ez:(100:Int)<(s.size:Int):=by omega
  clear hv hp hb hbp hT hM n1 n2 hkv hkp hc1
  rw [HA.out,HAP.out]
  go_enter Tryz.func8,Tryz.ntmps8
  go_upto_region 1 with fail
  have hb1:Blk ((w.alloc (.cells #[.int .i64 v.kd,.int .i64 v.nm,.string ⟨v.tx.toArray⟩,.slice A v.ls.length c0,.slice A' v.ms.length c0'] 25)).alloc (.cells #[.int .i64 p.kd,.int .i64 p.nm,.string ⟨p.tx.toArray⟩,.slice C p.ls.length f,.slice C' p.ms.length f'] 25)) w.heap.size #[.int .i64 v.kd,.int .i64 v.nm,.string ⟨v.tx.toArray⟩,.slice A v.ls.length c0,.slice A' v.ms.length c0'] 25:=(Blk.made w _ _).keep ((Fr.refl _).alloc _)
  have hb2:Blk ((w.alloc (.cells #[.int .i64 v.kd,.int .i64 v.nm,.string ⟨v.tx.toArray⟩,.slice A v.ls.length c0,.slice A' v.ms.length c0'] 25)).alloc (.cells #[.int .i64 p.kd,.int .i64 p.nm,.string ⟨p.tx.toArray⟩,.slice C p.ls.length f,.slice C' p.ms.length f'] 25)) (w.heap.size+1) #[.int .i64 p.kd,.int .i64 p.nm,.string ⟨p.tx.toArray⟩,.slice C p.ls.length f,.slice C' p.ms.length f'] 25:=boxz (Blk.made (w.alloc _) _ _)
  have hf0:Fr w ((w.alloc (.cells #[.int .i64 v.kd,.int .i64 v.nm,.string ⟨v.tx.toArray⟩,.slice A v.ls.length c0,.slice A' v.ms.length c0'] 25)).alloc (.cells #[.int .i64 p.kd,.int .i64 p.nm,.string ⟨p.tx.toArray⟩,.slice C p.ls.length f,.slice C' p.ms.length f'] 25)):=((Fr.refl w).alloc _).alloc _
  generalize ((w.alloc (.cells #[.int .i64 v.kd,.int .i64 v.nm,.string ⟨v.tx.toArray⟩,.slice A v.ls.length c0,.slice A' v.ms.length c0'] 25)).alloc (.cells #[.int .i64 p.kd,.int .i64 p.nm,.string ⟨p.tx.toArray⟩,.slice C p.ls.length f,.slice C' p.ms.length f'] 25))=W0 at hb1 hb2 hf0 ⊢
  generalize w.heap.size+1=X2 at hb2 ⊢
  obtain ⟨X1,hX1⟩:∃ X,w.heap.size=X:=⟨_,rfl⟩
  rw [hX1] at hb1 ⊢
  clear hX1
  have HB1:=Lib.hid hb1
  have HB2:=Lib.hid hb2
  have HF0:=Lib.hid hf0
  clear hb1 hb2 hf0
  go_wp2_with (first
   | (go_at_call 9;have hq:=HF2.out;refine (HAW.out _ (HF0.out.trans hq)).mono ?_;rintro e w9 ⟨rfl,hf⟩;have HF9:=Lib.hid ((HF0.out.trans hq).trans hf);clear hf hq)
   | (go_at_call 10;have hq:=HF1.out;refine (HFW.out _ (HF0.out.trans hq)).mono ?_;rintro e w2 ⟨⟨b,rfl⟩,hf⟩;obtain ⟨⟨q0,q1,q2,q3,q4⟩,_⟩:=box5 (HB1.out.keep (hq.trans hf));have HF2:=Lib.hid (hq.trans hf);clear hf hq;cases b)
   | (go_at_call 9;refine (HAW.out _ HF0.out).mono ?_;rintro e w1 ⟨rfl,hf⟩;obtain ⟨⟨y0,y1,y2,y3,y4⟩,_⟩:=box5 (HB1.out.keep hf);obtain ⟨⟨z0,z1,z2,z3,z4⟩,_⟩:=box5 (HB2.out.keep hf);have HF1:=Lib.hid hf;clear hf))
  all_goals go_ret
  all_goals exact ⟨rfl,HF9.out⟩
 have ez:¬ (100:Int)<(s.size:Int):=by omega
 obtain ⟨qs,hqs⟩:∃ qs,Pt.parts s.data.toList=qs:=⟨_,rfl⟩
 have HPQ:Hid (∀ W,Fr w W→Calls Tryz.prog 22 #[.string s] W (PtsP W qs)):=Lib.hid (fun W hW=>by rw [← hqs];exact parts_is s W (by omega) (hM.keep hW))
 cases hap:Pc.apply v p with
 | none=>
  have HA1:Hid (∀ W,Fr w W→Calls Tryz.prog 11 #[.agg #[.int .i64 v.kd,.int .i64 v.nm,.string ⟨v.tx.toArray⟩,.slice A v.ls.length c0,.slice A' v.ms.length c0'],.agg #[.int .i64 p.kd,.int .i64 p.nm,.string ⟨p.tx.toArray⟩,.slice C p.ls.length f,.slice C' p.ms.length f']] W fun e w'=>e=.returned (.tuple #[.agg #[.int .i64 0,.int .i64 0,.string ⟨#[]⟩,.slice none 0 0,.slice none 0 0],.int .i64 90])∧Fr W w'):=Lib.hid (fun W hW=>by
   have:=papply_x v p A c0 A' c0' C f C' f' W (hkv W hW) (hkp W hW) (by omega) hbp (hM.keep hW)
   rw [hap] at this
   exact this)
  clear hv hp hb hbp hT hM n1 n2 hkv hkp hc1 hap hqs
  rw [HA.out,HAP.out]
  go_enter Tryz.func8,Tryz.ntmps8
  go_upto_region 1 with fail
  have hb1:Blk ((w.alloc (.cells #[.int .i64 v.kd,.int .i64 v.nm,.string ⟨v.tx.toArray⟩,.slice A v.ls.length c0,.slice A' v.ms.length c0'] 25)).alloc (.cells #[.int .i64 p.kd,.int .i64 p.nm,.string ⟨p.tx.toArray⟩,.slice C p.ls.length f,.slice C' p.ms.length f'] 25)) w.heap.size #[.int .i64 v.kd,.int .i64 v.nm,.string ⟨v.tx.toArray⟩,.slice A v.ls.length c0,.slice A' v.ms.length c0'] 25:=(Blk.made w _ _).keep ((Fr.refl _).alloc _)
  have hb2:Blk ((w.alloc (.cells #[.int .i64 v.kd,.int .i64 v.nm,.string ⟨v.tx.toArray⟩,.slice A v.ls.length c0,.slice A' v.ms.length c0'] 25)).alloc (.cells #[.int .i64 p.kd,.int .i64 p.nm,.string ⟨p.tx.toArray⟩,.slice C p.ls.length f,.slice C' p.ms.length f'] 25)) (w.heap.size+1) #[.int .i64 p.kd,.int .i64 p.nm,.string ⟨p.tx.toArray⟩,.slice C p.ls.length f,.slice C' p.ms.length f'] 25:=boxz (Blk.made (w.alloc _) _ _)
  have hf0:Fr w ((w.alloc (.cells #[.int .i64 v.kd,.int .i64 v.nm,.string ⟨v.tx.toArray⟩,.slice A v.ls.length c0,.slice A' v.ms.length c0'] 25)).alloc (.cells #[.int .i64 p.kd,.int .i64 p.nm,.string ⟨p.tx.toArray⟩,.slice C p.ls.length f,.slice C' p.ms.length f'] 25)):=((Fr.refl w).alloc _).alloc _
  generalize ((w.alloc (.cells #[.int .i64 v.kd,.int .i64 v.nm,.string ⟨v.tx.toArray⟩,.slice A v.ls.length c0,.slice A' v.ms.length c0'] 25)).alloc (.cells #[.int .i64 p.kd,.int .i64 p.nm,.string ⟨p.tx.toArray⟩,.slice C p.ls.length f,.slice C' p.ms.length f'] 25))=W0 at hb1 hb2 hf0 ⊢
  generalize w.heap.size+1=X2 at hb2 ⊢
  obtain ⟨X1,hX1⟩:∃ X,w.heap.size=X:=⟨_,rfl⟩
  rw [hX1] at hb1 ⊢
  clear hX1
  have HB1:=Lib.hid hb1
  have HB2:=Lib.hid hb2
  have HF0:=Lib.hid hf0
  clear hb1 hb2 hf0
  go_upto_region 3 with (first
   | (go_at_call 16;have hq:=HF2.out;refine (HC1.out _ (HF0.out.trans hq)).mono ?_;rintro e w3 ⟨rfl,hf⟩;obtain ⟨⟨r0,r1,r2,r3,r4⟩,_⟩:=box5 (HB2.out.keep (hq.trans hf));have HF3:=Lib.hid (hq.trans hf);clear hf hq)
   | (go_at_call 10;have hq:=HF1.out;refine (HFW.out _ (HF0.out.trans hq)).mono ?_;rintro e w2 ⟨⟨b,rfl⟩,hf⟩;obtain ⟨⟨q0,q1,q2,q3,q4⟩,_⟩:=box5 (HB1.out.keep (hq.trans hf));have HF2:=Lib.hid (hq.trans hf);clear hf hq;cases b)
   | (go_at_call 9;refine (HAW.out _ HF0.out).mono ?_;rintro e w1 ⟨rfl,hf⟩;obtain ⟨⟨y0,y1,y2,y3,y4⟩,_⟩:=box5 (HB1.out.keep hf);obtain ⟨⟨z0,z1,z2,z3,z4⟩,_⟩:=box5 (HB2.out.keep hf);have HF1:=Lib.hid hf;clear hf))
  ·go_wp2_with (go_at_call 9;have hq:=HF2.out;refine (HAW.out _ (HF0.out.trans hq)).mono ?_;rintro e w9 ⟨rfl,hf⟩;have HF9:=Lib.hid ((HF0.out.trans hq).trans hf);clear hf hq)
   go_ret
   exact ⟨rfl,HF9.out⟩
  clear y0 y1 y2 y3 y4 z0 z1 z2 z3 z4 q0 q1 q2 q3 q4 r0 r1 r2 r3 r4
  obtain ⟨⟨y0,y1,y2,y3,y4⟩,_⟩:=box5 (HB1.out.keep HF3.out)
  obtain ⟨⟨z0,z1,z2,z3,z4⟩,_⟩:=box5 (HB2.out.keep HF3.out)
  go_upto_region 4 with (go_at_call 11;refine (HA1.out _ (HF0.out.trans HF3.out)).mono ?_;rintro e w5 ⟨rfl,hf⟩;have HF5:=Lib.hid ((HF0.out.trans HF3.out).trans hf);clear hf)
  clear y0 y1 y2 y3 y4 z0 z1 z2 z3 z4
  have HF6:Hid (Fr w (w5.alloc (.cells #[.int .i64 0,.int .i64 0,.string ⟨#[]⟩,.slice none 0 0,.slice none 0 0] 25))):=Lib.hid (HF5.out.alloc _)
  generalize (w5.alloc (.cells #[.int .i64 0,.int .i64 0,.string ⟨#[]⟩,.slice none 0 0,.slice none 0 0] 25))=W5 at HF6 ⊢
  cases qs with
  | none=>
   go_wp2_with (go_at_call 22;refine (HPQ.out _ HF6.out).mono ?_;rintro e w6 ⟨rfl,hf⟩;have HF7:=Lib.hid (HF6.out.trans hf);clear hf)
   go_ret
   exact ⟨rfl,HF7.out⟩
  | some q=>
   go_wp2_with (go_at_call 22;refine (HPQ.out _ HF6.out).mono ?_;intro e w6 hh;obtain ⟨⟨P9,c9,rfl,_⟩,hf⟩:=PtsP.some_ hh;have HF7:=Lib.hid (HF6.out.trans hf);clear hf hh)
   go_ret
   exact ⟨rfl,HF7.out⟩
 | some x=>
  obtain ⟨l,hcl,hfl,hxl⟩:=Pc.apply_some hap
  have hxn:=Pc.apply_nv hap
  have HA1:Hid (∀ W,Fr w W→Calls Tryz.prog 11 #[.agg #[.int .i64 v.kd,.int .i64 v.nm,.string ⟨v.tx.toArray⟩,.slice A v.ls.length c0,.slice A' v.ms.length c0'],.agg #[.int .i64 p.kd,.int .i64 p.nm,.string ⟨p.tx.toArray⟩,.slice C p.ls.length f,.slice C' p.ms.length f']] W fun e w'=>(∃ (D1:Option Addr) (g1:Nat) (D1':Option Addr) (g1':Nat),e=.returned (.tuple #[.agg #[.int .i64 x.kd,.int .i64 x.nm,.string ⟨x.tx.toArray⟩,.slice D1 x.ls.length g1,.slice D1' x.ms.length g1'],.int .i64 0])∧InV w' (Lo w'.heap.size) x (vA x D1 g1 D1' g1'))∧Fr W w'):=Lib.hid (fun W hW=>by
   have:=papply_x v p A c0 A' c0' C f C' f' W (hkv W hW) (hkp W hW) (by omega) hbp (hM.keep hW)
   rw [hap] at this
   exact this.mono (fun e w' h=>h.some_))
  cases qs with
  | none=>
   clear hv hp hb hbp hT hM n1 n2 hkv hkp hc1 hap hqs hcl hfl hxl hxn
   rw [HA.out,HAP.out]
   go_enter Tryz.func8,Tryz.ntmps8
   go_upto_region 1 with fail
   have hb1:Blk ((w.alloc (.cells #[.int .i64 v.kd,.int .i64 v.nm,.string ⟨v.tx.toArray⟩,.slice A v.ls.length c0,.slice A' v.ms.length c0'] 25)).alloc (.cells #[.int .i64 p.kd,.int .i64 p.nm,.string ⟨p.tx.toArray⟩,.slice C p.ls.length f,.slice C' p.ms.length f'] 25)) w.heap.size #[.int .i64 v.kd,.int .i64 v.nm,.string ⟨v.tx.toArray⟩,.slice A v.ls.length c0,.slice A' v.ms.length c0'] 25:=(Blk.made w _ _).keep ((Fr.refl _).alloc _)
   have hb2:Blk ((w.alloc (.cells #[.int .i64 v.kd,.int .i64 v.nm,.string ⟨v.tx.toArray⟩,.slice A v.ls.length c0,.slice A' v.ms.length c0'] 25)).alloc (.cells #[.int .i64 p.kd,.int .i64 p.nm,.string ⟨p.tx.toArray⟩,.slice C p.ls.length f,.slice C' p.ms.length f'] 25)) (w.heap.size+1) #[.int .i64 p.kd,.int .i64 p.nm,.string ⟨p.tx.toArray⟩,.slice C p.ls.length f,.slice C' p.ms.length f'] 25:=boxz (Blk.made (w.alloc _) _ _)
   have hf0:Fr w ((w.alloc (.cells #[.int .i64 v.kd,.int .i64 v.nm,.string ⟨v.tx.toArray⟩,.slice A v.ls.length c0,.slice A' v.ms.length c0'] 25)).alloc (.cells #[.int .i64 p.kd,.int .i64 p.nm,.string ⟨p.tx.toArray⟩,.slice C p.ls.length f,.slice C' p.ms.length f'] 25)):=((Fr.refl w).alloc _).alloc _
   generalize ((w.alloc (.cells #[.int .i64 v.kd,.int .i64 v.nm,.string ⟨v.tx.toArray⟩,.slice A v.ls.length c0,.slice A' v.ms.length c0'] 25)).alloc (.cells #[.int .i64 p.kd,.int .i64 p.nm,.string ⟨p.tx.toArray⟩,.slice C p.ls.length f,.slice C' p.ms.length f'] 25))=W0 at hb1 hb2 hf0 ⊢
   generalize w.heap.size+1=X2 at hb2 ⊢
   obtain ⟨X1,hX1⟩:∃ X,w.heap.size=X:=⟨_,rfl⟩
   rw [hX1] at hb1 ⊢
   clear hX1
   have HB1:=Lib.hid hb1
   have HB2:=Lib.hid hb2
   have HF0:=Lib.hid hf0
   clear hb1 hb2 hf0
   go_upto_region 3 with (first
    | (go_at_call 16;have hq:=HF2.out;refine (HC1.out _ (HF0.out.trans hq)).mono ?_;rintro e w3 ⟨rfl,hf⟩;obtain ⟨⟨r0,r1,r2,r3,r4⟩,_⟩:=box5 (HB2.out.keep (hq.trans hf));have HF3:=Lib.hid (hq.trans hf);clear hf hq)
    | (go_at_call 10;have hq:=HF1.out;refine (HFW.out _ (HF0.out.trans hq)).mono ?_;rintro e w2 ⟨⟨b,rfl⟩,hf⟩;obtain ⟨⟨q0,q1,q2,q3,q4⟩,_⟩:=box5 (HB1.out.keep (hq.trans hf));have HF2:=Lib.hid (hq.trans hf);clear hf hq;cases b)
    | (go_at_call 9;refine (HAW.out _ HF0.out).mono ?_;rintro e w1 ⟨rfl,hf⟩;obtain ⟨⟨y0,y1,y2,y3,y4⟩,_⟩:=box5 (HB1.out.keep hf);obtain ⟨⟨z0,z1,z2,z3,z4⟩,_⟩:=box5 (HB2.out.keep hf);have HF1:=Lib.hid hf;clear hf))
   ·go_wp2_with (go_at_call 9;have hq:=HF2.out;refine (HAW.out _ (HF0.out.trans hq)).mono ?_;rintro e w9 ⟨rfl,hf⟩;have HF9:=Lib.hid ((HF0.out.trans hq).trans hf);clear hf hq)
    go_ret
    exact ⟨rfl,HF9.out⟩
   clear y0 y1 y2 y3 y4 z0 z1 z2 z3 z4 q0 q1 q2 q3 q4 r0 r1 r2 r3 r4
   obtain ⟨⟨y0,y1,y2,y3,y4⟩,_⟩:=box5 (HB1.out.keep HF3.out)
   obtain ⟨⟨z0,z1,z2,z3,z4⟩,_⟩:=box5 (HB2.out.keep HF3.out)
   go_upto_region 4 with (go_at_call 11;refine (HA1.out _ (HF0.out.trans HF3.out)).mono ?_;rintro e w5 ⟨⟨D1,g1,D1',g1',rfl,hi⟩,hf⟩;have HF5:=Lib.hid ((HF0.out.trans HF3.out).trans hf);clear hi hf)
   clear y0 y1 y2 y3 y4 z0 z1 z2 z3 z4
   have HF6:Hid (Fr w (w5.alloc (.cells #[.int .i64 x.kd,.int .i64 x.nm,.string ⟨x.tx.toArray⟩,.slice D1 x.ls.length g1,.slice D1' x.ms.length g1'] 25))):=Lib.hid (HF5.out.alloc _)
   generalize (w5.alloc (.cells #[.int .i64 x.kd,.int .i64 x.nm,.string ⟨x.tx.toArray⟩,.slice D1 x.ls.length g1,.slice D1' x.ms.length g1'] 25))=W5 at HF6 ⊢
   go_wp2_with (go_at_call 22;refine (HPQ.out _ HF6.out).mono ?_;rintro e w6 ⟨rfl,hf⟩;have HF7:=Lib.hid (HF6.out.trans hf);clear hf)
   go_ret
   exact ⟨rfl,HF7.out⟩
  | some q=>
   have hlk:=Pc.likes hcl hbp
   have hll:l.length=p.ms.length:=Pc.chgM_len (Pc.chg_some hcl).2.2
   have HLG:Hid (∀ i (h1:i<p.ms.length) (h2:i<l.length),Pt.parts (47::p.ms[i].1)=some l[i].1∧l[i].2=p.ms[i].2):=Lib.hid (Pc.chgM_get (Pc.chg_some hcl).2.2)
   have HOF:Hid ((∀ a (h:a<l.length),Pc.Off l[a].1 q)→Pt.find false q x=Pt.find false q v):=Lib.hid (fun h=>Pc.alone_off (p:=p) hcl hfl hxl h)
   have HIN:Hid (∀ i (h:i<l.length),Pt.find false l[i].1 x=if l[i].2.kd=1 then none else some l[i].2):=Lib.hid (fun i h=>Pc.alone_has (v:=v) (p:=p) hcl hfl hxl h)
   have HLK:=Lib.hid hlk
   have HLL:=Lib.hid hll
   have HQS:=Lib.hid hqs
   have hq2:Hid (q.length≤101):=Lib.hid (by
    have h1:=(Pt.parts_len hqs).1
    have h2:s.data.toList.length=s.size:=by simp
    omega)
   have HNM:Hid (∀ y∈p.ms,7+y.1.length≤1048576):=Lib.hid (fun y hy=>by have:=(Pc.bulk_mem hy).1;omega)
   have HPL:Hid (p.ms.length≤400):=Lib.hid (Pc.chg_some hcl).2.1
   have HKV:=Lib.hid hkv
   have HXN:Hid (Rd.nv x≤1048576∧Rd.nv v≤1048576):=Lib.hid (by constructor <;> omega)
   obtain ⟨E9,c9,E9',c9',hvA,_,hms⟩:=hp.open_
   have hE9:C'=E9':=by
    simp only [vA,Value.agg.injEq] at hvA
    have h4:=congrArg (fun q:Array Value=>q.getD 4 undef) hvA
    simp at h4
    exact h4.1
   subst hE9
   have HMS:=Lib.hid hms
   have HSM:Hid (∀ (z:JV) W (D1:Option Addr) (g1:Nat) (D1':Option Addr) (g1':Nat) (D2:Option Addr) (g2:Nat) (D2':Option Addr) (g2':Nat),InV W (Lo W.heap.size) z (vA z D1 g1 D1' g1')→InV W (Lo W.heap.size) z (vA z D2 g2 D2' g2')→Calls Tryz.prog 13 #[.agg #[.int .i64 z.kd,.int .i64 z.nm,.string ⟨z.tx.toArray⟩,.slice D1 z.ls.length g1,.slice D1' z.ms.length g1'],.agg #[.int .i64 z.kd,.int .i64 z.nm,.string ⟨z.tx.toArray⟩,.slice D2 z.ls.length g2,.slice D2' z.ms.length g2']] W fun e w'=>e=.returned (.bool true)∧Fr W w'):=Lib.hid (fun z W D1 g1 D1' g1' D2 g2 D2' g2' h1 h2=>same_self z D1 g1 D1' g1' D2 g2 D2' g2' W h1 h2)
   clear hv hp hb hbp hT hM n1 n2 hkv hkp hc1 hap hqs hcl hfl hxl hxn hlk hll hvA hms
   rw [HA.out,HAP.out]
   go_enter Tryz.func8,Tryz.ntmps8
   go_upto_region 1 with fail
   have hb1:Blk ((w.alloc (.cells #[.int .i64 v.kd,.int .i64 v.nm,.string ⟨v.tx.toArray⟩,.slice A v.ls.length c0,.slice A' v.ms.length c0'] 25)).alloc (.cells #[.int .i64 p.kd,.int .i64 p.nm,.string ⟨p.tx.toArray⟩,.slice C p.ls.length f,.slice C' p.ms.length f'] 25)) w.heap.size #[.int .i64 v.kd,.int .i64 v.nm,.string ⟨v.tx.toArray⟩,.slice A v.ls.length c0,.slice A' v.ms.length c0'] 25:=(Blk.made w _ _).keep ((Fr.refl _).alloc _)
   have hb2:Blk ((w.alloc (.cells #[.int .i64 v.kd,.int .i64 v.nm,.string ⟨v.tx.toArray⟩,.slice A v.ls.length c0,.slice A' v.ms.length c0'] 25)).alloc (.cells #[.int .i64 p.kd,.int .i64 p.nm,.string ⟨p.tx.toArray⟩,.slice C p.ls.length f,.slice C' p.ms.length f'] 25)) (w.heap.size+1) #[.int .i64 p.kd,.int .i64 p.nm,.string ⟨p.tx.toArray⟩,.slice C p.ls.length f,.slice C' p.ms.length f'] 25:=boxz (Blk.made (w.alloc _) _ _)
   have hf0:Fr w ((w.alloc (.cells #[.int .i64 v.kd,.int .i64 v.nm,.string ⟨v.tx.toArray⟩,.slice A v.ls.length c0,.slice A' v.ms.length c0'] 25)).alloc (.cells #[.int .i64 p.kd,.int .i64 p.nm,.string ⟨p.tx.toArray⟩,.slice C p.ls.length f,.slice C' p.ms.length f'] 25)):=((Fr.refl w).alloc _).alloc _
   generalize ((w.alloc (.cells #[.int .i64 v.kd,.int .i64 v.nm,.string ⟨v.tx.toArray⟩,.slice A v.ls.length c0,.slice A' v.ms.length c0'] 25)).alloc (.cells #[.int .i64 p.kd,.int .i64 p.nm,.string ⟨p.tx.toArray⟩,.slice C p.ls.length f,.slice C' p.ms.length f'] 25))=W0 at hb1 hb2 hf0 ⊢
   generalize w.heap.size+1=X2 at hb2 ⊢
   obtain ⟨X1,hX1⟩:∃ X,w.heap.size=X:=⟨_,rfl⟩
   rw [hX1] at hb1 ⊢
   clear hX1
   have HB1:=Lib.hid hb1
   have HB2:=Lib.hid hb2
   have HF0:=Lib.hid hf0
   clear hb1 hb2 hf0
   go_upto_region 3 with (first
    | (go_at_call 16;have hq:=HF2.out;refine (HC1.out _ (HF0.out.trans hq)).mono ?_;rintro e w3 ⟨rfl,hf⟩;obtain ⟨⟨r0,r1,r2,r3,r4⟩,_⟩:=box5 (HB2.out.keep (hq.trans hf));have HF3:=Lib.hid (hq.trans hf);clear hf hq)
    | (go_at_call 10;have hq:=HF1.out;refine (HFW.out _ (HF0.out.trans hq)).mono ?_;rintro e w2 ⟨⟨b,rfl⟩,hf⟩;obtain ⟨⟨q0,q1,q2,q3,q4⟩,_⟩:=box5 (HB1.out.keep (hq.trans hf));have HF2:=Lib.hid (hq.trans hf);clear hf hq;cases b)
    | (go_at_call 9;refine (HAW.out _ HF0.out).mono ?_;rintro e w1 ⟨rfl,hf⟩;obtain ⟨⟨y0,y1,y2,y3,y4⟩,_⟩:=box5 (HB1.out.keep hf);obtain ⟨⟨z0,z1,z2,z3,z4⟩,_⟩:=box5 (HB2.out.keep hf);have HF1:=Lib.hid hf;clear hf))
   ·go_wp2_with (go_at_call 9;have hq:=HF2.out;refine (HAW.out _ (HF0.out.trans hq)).mono ?_;rintro e w9 ⟨rfl,hf⟩;have HF9:=Lib.hid ((HF0.out.trans hq).trans hf);clear hf hq)
    go_ret
    exact ⟨rfl,HF9.out⟩
   clear y0 y1 y2 y3 y4 z0 z1 z2 z3 z4 q0 q1 q2 q3 q4 r0 r1 r2 r3 r4
   obtain ⟨⟨y0,y1,y2,y3,y4⟩,_⟩:=box5 (HB1.out.keep HF3.out)
   obtain ⟨⟨z0,z1,z2,z3,z4⟩,_⟩:=box5 (HB2.out.keep HF3.out)
   go_upto_region 4 with (go_at_call 11;refine (HA1.out _ (HF0.out.trans HF3.out)).mono ?_;rintro e w5 ⟨⟨D1,g1,D1',g1',rfl,hi⟩,hf⟩;have HI4:=Lib.hid hi;have HF4:=Lib.hid (HF3.out.trans hf);clear hi hf)
   clear y0 y1 y2 y3 y4 z0 z1 z2 z3 z4
   have hb5:=Blk.made w5 #[.int .i64 x.kd,.int .i64 x.nm,.string ⟨x.tx.toArray⟩,.slice D1 x.ls.length g1,.slice D1' x.ms.length g1'] 25
   have hk5:Fr w5 (w5.alloc (.cells #[.int .i64 x.kd,.int .i64 x.nm,.string ⟨x.tx.toArray⟩,.slice D1 x.ls.length g1,.slice D1' x.ms.length g1'] 25)):=(Fr.refl w5).alloc _
   generalize (w5.alloc (.cells #[.int .i64 x.kd,.int .i64 x.nm,.string ⟨x.tx.toArray⟩,.slice D1 x.ls.length g1,.slice D1' x.ms.length g1'] 25))=W5 at hb5 hk5 ⊢
   generalize w5.heap.size=X5 at hb5 ⊢
   have HF05:Hid (Fr W0 W5):=Lib.hid (HF4.out.trans hk5)
   have HI5:Hid (InV W5 (Lo W5.heap.size) x (vA x D1 g1 D1' g1')):=Lib.hid ((HI4.out.keep (Nat.le_refl _) hk5).lo hk5.size)
   have HB5:=Lib.hid hb5
   clear hb5 hk5
   go_upto_region 7 with (go_at_call 22;refine (HPQ.out _ (HF0.out.trans HF05.out)).mono ?_;intro e w6 hh;obtain ⟨⟨P9,c9,rfl,hps⟩,hf⟩:=PtsP.some_ hh;have HPS:=Lib.hid hps;have HF56:=Lib.hid hf;clear hf hh hps)
   obtain ⟨W6,hW6⟩:∃ W,W=w6:=⟨w6,rfl⟩
   subst hW6
   have hpl':(p.ms.length:Int)≤400:=by have:=HPL.out;omega
   have hql':(q.length:Int)≤101:=by have:=hq2.out;omega
   obtain ⟨⟨z0,z1,z2,z3,z4⟩,_⟩:=box5 (HB2.out.keep (HF05.out.trans HF56.out))
   go_wp2_with fail
   clear z0 z1 z2 z3 z4
   go_loopw [11] (fun j wr=>∃ (i:Nat),i≤p.ms.length∧j=.int .i64 i∧Hid (∀ a (h:a<l.length),a<i→Pc.Off l[a].1 q)∧Hid (Fr W6 wr)) (fun j _=>p.ms.length - (intOf j).toNat)
   case atStart=>exact ⟨0,by omega,rfl,Lib.hid (fun a _ h=>absurd h (by omega)),Lib.hid (Fr.refl _)⟩
   case round=>
    obtain ⟨i,hi,rfl,hO,hF⟩:=hrel
    have HF0r:Hid (Fr W0 wr):=Lib.hid ((HF05.out.trans HF56.out).trans hF.out)
    have HFr:Hid (Fr w wr):=Lib.hid (HF0.out.trans HF0r.out)
    by_cases hlt:i<p.ms.length
    ·have hlt':(i:Int)<(p.ms.length:Int):=by omega
     have hil:i<l.length:=by have:=HLL.out;omega
     obtain ⟨bm,om,G,k,G',k',rfl,hbm,_,m0,⟨m1,m2,m3,m4,m5⟩,hiv⟩:=(HMS.out.keep (Nat.le_refl _) HFr.out) i hlt
     have hb2:=HB2.out.keep HF0r.out
     obtain ⟨⟨z0,z1,z2,z3,z4⟩,_⟩:=box5 hb2
     obtain ⟨hpp,hl2⟩:=HLG.out i hlt hil
     have hnl:=HNM.out _ (List.getElem_mem hlt)
     have hfi:=HIN.out i hil
     have hsz:=HLK.out.short _ (List.getElem_mem hil)
     rw [hl2] at hfi
     obtain ⟨m,hm⟩:∃ m,l[i].1=m:=⟨_,rfl⟩
     rw [hm] at hpp hfi hsz
     obtain ⟨pu,hpu⟩:∃ pu,p.ms[i]=pu:=⟨_,rfl⟩
     rw [hpu] at m0 m1 m2 m3 m4 m5 hiv hnl hpp hfi
     obtain ⟨nm,u⟩:=pu
     simp only at m0 m1 m2 m3 m4 m5 hiv hnl hpp hfi
     have hSn:∀ S:ByteArray,S=(⟨#[47]⟩:ByteArray)++⟨nm.toArray⟩→S.data.toList=47::nm∧S.size<4294967281:=fun S hS=>by
      have hd:S.data.toList=47::nm:=by rw [hS];simp [ByteArray.data_append]
      refine ⟨hd,?_⟩
      have:S.size=S.data.toList.length:=by simp
      rw [this,hd];simp;omega
     have HPM:Hid (∀ W S,Fr w W→S=(⟨#[47]⟩:ByteArray)++⟨nm.toArray⟩→Calls Tryz.prog 22 #[.string S] W fun e w'=>(∃ P c,e=.returned (.tuple #[.slice P m.length c,.int .i64 0])∧PsC w' P m)∧Fr W w'):=Lib.hid (fun W S hW hS=>by
      obtain ⟨hd,hz⟩:=hSn S hS
      have:=parts_is S W hz (HM.out.keep hW)
      rw [hd,hpp] at this
      exact this.mono (fun e w' h=>PtsP.some_ h))
     have hzz:¬ 9223372036854775807<1+nm.length:=by omega
     have HM1:=Lib.hid hm
     have HIV:Hid (InV wr (Lo wr.heap.size) u (vA u G k G' k')):=Lib.hid (hiv.lo HFr.out.size)
     have hml':(m.length:Int)≤1048577:=by omega
     have HCM:Hid (∀ W,Fr wr W→W.cell? ⟨X2,4,none⟩=some (.slice (some ⟨bm,om,none⟩) p.ms.length f')∧W.cell? ⟨bm,om+i*6,none⟩=some (.string ⟨nm.toArray⟩)):=Lib.hid (fun W hW=>⟨(HB2.out.keep (HF0r.out.trans hW)).cell 4,(hW.cell (Nat.lt_of_lt_of_le hbm HFr.out.size)).trans m0⟩)
     have HCU:Hid (∀ W,Fr wr W→W.cell? ⟨bm,om+i*6+1,none⟩=some (.int .i64 u.kd)∧W.cell? ⟨bm,om+i*6+1+1,none⟩=some (.int .i64 u.nm)∧W.cell? ⟨bm,om+i*6+1+2,none⟩=some (.string ⟨u.tx.toArray⟩)∧W.cell? ⟨bm,om+i*6+1+3,none⟩=some (.slice G u.ls.length k)∧W.cell? ⟨bm,om+i*6+1+4,none⟩=some (.slice G' u.ms.length k')):=Lib.hid (fun W hW=>⟨(hW.cell (Nat.lt_of_lt_of_le hbm HFr.out.size)).trans m1,(hW.cell (Nat.lt_of_lt_of_le hbm HFr.out.size)).trans m2,(hW.cell (Nat.lt_of_lt_of_le hbm HFr.out.size)).trans m3,(hW.cell (Nat.lt_of_lt_of_le hbm HFr.out.size)).trans m4,(hW.cell (Nat.lt_of_lt_of_le hbm HFr.out.size)).trans m5⟩)
     have HFI:=Lib.hid hfi
     have HPPE:=Lib.hid hpp
     have HSN:=Lib.hid hSn
     clear hiv hnl hbm hpu hl2 hpp hfi hSn hb2 hm m1 m2 m3 m4 m5 hsz
     go_upto_region 11 with (go_at_call 22;refine (HPM.out _ _ HFr.out rfl).mono ?_;rintro e w7 ⟨⟨P7,c7,rfl,hps⟩,hf⟩;have HPS7:=Lib.hid hps;have HF7:=Lib.hid hf;clear hf hps)
     clear z0 z1 z2 z3 z4 m0
     obtain ⟨W7,hW7⟩:∃ W,W=w7:=⟨w7,rfl⟩
     subst hW7
     go_upto_region 12 with fail
     have hmn:(m.length:Int)≤9223372036854775807:=by omega
     by_cases hle:m.length≤q.length
     ·have hle':(m.length:Int)≤(q.length:Int):=by omega
      have hn9:min (q.length:Int) (m.length:Int)=(m.length:Int):=by omega
      go_wp2_with fail
      go_loopw [15,16] (fun b9 j wr2=>∃ (kk:Nat) (b:Bool),kk≤m.length∧b9=.bool b∧j=.int .i64 kk∧Hid (b=true ↔ ∀ a (h1:a<q.length) (h2:a<m.length),a<kk→q[a]=m[a])∧Hid (Fr W7 wr2)) (fun _ j _=>m.length - (intOf j).toNat)
      case atStart=>exact ⟨0,true,by omega,rfl,rfl,Lib.hid ⟨fun _ a _ _ h=>absurd h (by omega),fun _=>rfl⟩,Lib.hid (Fr.refl _)⟩
      case round=>
       obtain ⟨kk,b,hk,rfl,rfl,hB,hF9⟩:=hrel
       by_cases hlk:kk<m.length
       ·have hlk':(kk:Int)<(m.length:Int):=by omega
        have hkm:kk<m.length:=by omega
        have hkq:kk<q.length:=by omega
        have hkm':(kk:Int)<(m.length:Int):=by omega
        have hkq':(kk:Int)<(q.length:Int):=by omega
        cases b
        ·go_upto_region 16 with fail
         go_quiet (fail)
         go_wp2_with fail
         exact ⟨⟨kk+1,false,by omega,rfl,by go_num,Lib.hid ⟨fun h=>(by cases h),fun h=>hB.out.2 (fun a h1 h2 h3=>h a h1 h2 (by omega))⟩,Lib.hid (hF9.out.trans ((Fr.refl _).drewN _))⟩,by simp [intOf];omega⟩
        ·obtain ⟨bq,oq,rfl,hbq,hcq⟩:=HPS.out (fun e=>by rw [e] at hkq;simp at hkq)
         obtain ⟨b7,o7,rfl,hb7,hc7⟩:=HPS7.out (fun e=>by rw [e] at hkm;simp at hkm)
         have mq:=((((hF.out.trans HF7.out).trans hF9.out)).cell hbq).trans (hcq kk hkq)
         have m7:=(hF9.out.cell hb7).trans (hc7 kk hkm)
         obtain ⟨s1,hs1⟩:∃ s1,q[kk]=s1:=⟨_,rfl⟩
         obtain ⟨s2,hs2⟩:∃ s2,m[kk]=s2:=⟨_,rfl⟩
         rw [hs1] at mq
         rw [hs2] at m7
         have hbn:=bl_beq s1 s2
         have HS1:=Lib.hid hs1
         have HS2:=Lib.hid hs2
         clear hs1 hs2 hbq hb7
         by_cases hss:s1=s2
         ·rw [decide_eq_true hss] at hbn
          have hbn2:(s1 == s2)=true:=by simp [hss]
          have HSS:=Lib.hid hss
          clear hss
          go_upto_region 16 with fail
          go_quiet (fail)
          go_wp2_with fail
          exact ⟨⟨kk+1,true,by omega,rfl,by go_num,Lib.hid ⟨fun _ a h1 h2 h3=>by
           by_cases e:a=kk
           ·subst e;rw [HS1.out,HS2.out,HSS.out]
           ·exact hB.out.1 rfl a h1 h2 (by omega),fun _=>rfl⟩,Lib.hid (hF9.out.trans ((Fr.refl _).drewN _))⟩,by simp [intOf];omega⟩
         ·rw [decide_eq_false hss] at hbn
          have hbn2:(s1 == s2)=false:=by simp [hss]
          have HSS:=Lib.hid hss
          clear hss
          go_upto_region 16 with fail
          go_quiet (fail)
          go_wp2_with fail
          exact ⟨⟨kk+1,false,by omega,rfl,by go_num,Lib.hid ⟨fun h=>(by cases h),fun h=>absurd (HS1.out.symm.trans ((h kk hkq hkm (by omega)).trans HS2.out)) HSS.out⟩,Lib.hid (hF9.out.trans ((Fr.refl _).drewN _))⟩,by simp [intOf];omega⟩
       ·obtain rfl:kk=m.length:=by omega
        cases b
        ·have hno:Hid (Pc.Off m q):=Lib.hid (Pc.alike_off (fun h=>by have:=hB.out.2 (fun a h1 h2 h3=>h a h1 h2);cases this))
         go_wp2_with fail
         exact ⟨⟨i+1,by omega,by go_num,Lib.hid (fun a ha hai=>by
          by_cases e:a=i
          ·subst e;rw [HM1.out];exact hno.out
          ·exact hO.out a ha (by omega)),Lib.hid ((hF.out.trans HF7.out).trans hF9.out)⟩,by simp [intOf];omega⟩
        ·have hpre:Hid (∀ a (h1:a<q.length) (h2:a<m.length),q[a]=m[a]):=Lib.hid (fun a h1 h2=>hB.out.1 rfl a h1 h2 h2)
         obtain ⟨W9,hW9⟩:∃ W,W=wr:=⟨wr,rfl⟩
         subst hW9
         have HF79:Hid (Fr _ W9):=Lib.hid (HF7.out.trans hF9.out)
         have HF59:Hid (Fr W5 W9):=Lib.hid ((HF56.out.trans hF.out).trans HF79.out)
         have HF09:Hid (Fr w W9):=Lib.hid ((HF0.out.trans HF05.out).trans HF59.out)
         have HS:Hid (∀ W,Fr W9 W→W.cell? ⟨X5,0,none⟩=some (.int .i64 x.kd)∧W.cell? ⟨X5,1,none⟩=some (.int .i64 x.nm)∧W.cell? ⟨X5,2,none⟩=some (.string ⟨x.tx.toArray⟩)∧W.cell? ⟨X5,3,none⟩=some (.slice D1 x.ls.length g1)∧W.cell? ⟨X5,4,none⟩=some (.slice D1' x.ms.length g1')∧W.cell? ⟨X2,4,none⟩=some (.slice (some ⟨bm,om,none⟩) p.ms.length f')∧W.cell? ⟨bm,om+i*6,none⟩=some (.string ⟨nm.toArray⟩)):=Lib.hid (fun W hW=>by
          have g:=HB5.out.keep (HF59.out.trans hW)
          have g2:=HCM.out W (HF79.out.trans hW)
          exact ⟨g.cell 0,g.cell 1,g.cell 2,g.cell 3,g.cell 4,g2.1,g2.2⟩)
         go_upto_region 18 with fail
         by_cases hk1:u.kd=1
         ·have hq1:(u.kd == 1)=true:=by rw [hk1];rfl
          have HC:Hid (∀ W S,Fr W9 W→S=(⟨#[47]⟩:ByteArray)++⟨nm.toArray⟩→Calls Tryz.prog 23 #[.agg #[.int .i64 x.kd,.int .i64 x.nm,.string ⟨x.tx.toArray⟩,.slice D1 x.ls.length g1,.slice D1' x.ms.length g1'],.string S] W fun e w'=>e=.returned (.tuple #[.agg #[.int .i64 0,.int .i64 0,.string ⟨#[]⟩,.slice none 0 0,.slice none 0 0],.int .i64 81])∧Fr W w'):=Lib.hid (fun W S hW hS=>by
           obtain ⟨hd,hz⟩:=HSN.out S hS
           have hf:=HFI.out
           rw [if_pos hk1] at hf
           exact find_none x D1 g1 D1' g1' S m W ((HI5.out.keep (Nat.le_refl _) (HF59.out.trans hW)).lo (HF59.out.trans hW).size) HXN.out.1 hz (HM.out.keep (HF09.out.trans hW)) (by rw [hd];exact HPPE.out) hf)
          clear hk1
          go_region_held3 (fun W=>W.cell? ⟨X5,0,none⟩=some (.int .i64 x.kd)∧W.cell? ⟨X5,1,none⟩=some (.int .i64 x.nm)∧W.cell? ⟨X5,2,none⟩=some (.string ⟨x.tx.toArray⟩)∧W.cell? ⟨X5,3,none⟩=some (.slice D1 x.ls.length g1)∧W.cell? ⟨X5,4,none⟩=some (.slice D1' x.ms.length g1')∧W.cell? ⟨X2,4,none⟩=some (.slice (some ⟨bm,om,none⟩) p.ms.length f')∧W.cell? ⟨bm,om+i*6,none⟩=some (.string ⟨nm.toArray⟩))
           (first | with_reducible exact HS.out _ (HF8.out _ _ _ _ _) | with_reducible exact HS.out _ (HF99.out _ _ _ _ _) | with_reducible exact HS.out _ (HF1.out.alloc _) | with_reducible exact HS.out _ HF1.out | with_reducible exact HS.out _ ((Fr.refl _).alloc _).drew | with_reducible exact HS.out _ (Fr.refl _).drew | with_reducible exact HS.out _ (Fr.refl _))
           (first | (go_at_call 23;refine (HC.out _ _ (by with_reducible exact ((Fr.refl W9).alloc _).drew) rfl).mono ?_;rintro e w1 ⟨rfl,hf⟩;have hb8:Blk w1 W9.heap.size #[.int .i64 0,.int .i64 0,.string ⟨#[]⟩,.slice none 0 0,.slice none 0 0] 25:=(Blk.made W9 _ _).keep ((Fr.refl _).drew.trans hf);obtain ⟨⟨s0,s1,s2,s3,s4⟩,sf0,sf1,sf2,sf3,sf4⟩:=box5 hb8;have HB8:=Lib.hid hb8;have hf1:Fr W9 w1:=(by first | exact hf | exact (Fr.refl _).drew.trans hf | exact ((Fr.refl _).alloc _).drew.trans hf);have HF8:Hid (∀ u0 u1 u2 u3 u4,Fr W9 (((((w1.setCell ⟨W9.heap.size,0,none⟩ u0).setCell ⟨W9.heap.size,1,none⟩ u1).setCell ⟨W9.heap.size,2,none⟩ u2).setCell ⟨W9.heap.size,3,none⟩ u3).setCell ⟨W9.heap.size,4,none⟩ u4)):=Lib.hid (fun u0 u1 u2 u3 u4=>hf1.put5 (X:=W9.heap.size) (Nat.le_refl _) u0 u1 u2 u3 u4);have HF99:Hid (∀ u0 u1 u2 u3 u4,Fr W9 ((((((w1.alloc (.cells #[.int .i64 0,.int .i64 0,.string ⟨#[]⟩,.slice none 0 0,.slice none 0 0] 25)).setCell ⟨w1.heap.size,0,none⟩ u0).setCell ⟨w1.heap.size,1,none⟩ u1).setCell ⟨w1.heap.size,2,none⟩ u2).setCell ⟨w1.heap.size,3,none⟩ u3).setCell ⟨w1.heap.size,4,none⟩ u4)):=Lib.hid (fun u0 u1 u2 u3 u4=>(hf1.alloc _).put5 (X:=w1.heap.size) hf1.size u0 u1 u2 u3 u4);have HF1:=Lib.hid hf1;clear hf1 hf hb8) | (go_at_call 23;refine (HC.out _ _ (by first | with_reducible exact (Fr.refl W9).drew | with_reducible exact Fr.refl W9) rfl).mono ?_;rintro e w1 ⟨rfl,hf⟩;have hf1:Fr W9 w1:=(by first | exact hf | exact (Fr.refl _).drew.trans hf | exact ((Fr.refl _).alloc _).drew.trans hf);have HF8:Hid (∀ u0 u1 u2 u3 u4,Fr W9 (((((w1.setCell ⟨W9.heap.size,0,none⟩ u0).setCell ⟨W9.heap.size,1,none⟩ u1).setCell ⟨W9.heap.size,2,none⟩ u2).setCell ⟨W9.heap.size,3,none⟩ u3).setCell ⟨W9.heap.size,4,none⟩ u4)):=Lib.hid (fun u0 u1 u2 u3 u4=>hf1.put5 (X:=W9.heap.size) (Nat.le_refl _) u0 u1 u2 u3 u4);have HF99:Hid (∀ u0 u1 u2 u3 u4,Fr W9 ((((((w1.alloc (.cells #[.int .i64 0,.int .i64 0,.string ⟨#[]⟩,.slice none 0 0,.slice none 0 0] 25)).setCell ⟨w1.heap.size,0,none⟩ u0).setCell ⟨w1.heap.size,1,none⟩ u1).setCell ⟨w1.heap.size,2,none⟩ u2).setCell ⟨w1.heap.size,3,none⟩ u3).setCell ⟨w1.heap.size,4,none⟩ u4)):=Lib.hid (fun u0 u1 u2 u3 u4=>(hf1.alloc _).put5 (X:=w1.heap.size) hf1.size u0 u1 u2 u3 u4);have HF1:=Lib.hid hf1;clear hf1 hf))
          ·have hw9:=HF1.out.alloc (.cells #[.int .i64 0,.int .i64 0,.string ⟨#[]⟩,.slice none 0 0,.slice none 0 0] 25)
           generalize (w1.alloc (.cells #[.int .i64 0,.int .i64 0,.string ⟨#[]⟩,.slice none 0 0,.slice none 0 0] 25))=Wf at hw9 ⊢
           have HWf:=Lib.hid hw9
           have z4:=(HCM.out _ (HF79.out.trans hw9)).1
           have m1:=(HCU.out _ (HF79.out.trans hw9)).1
           clear hw9
           go_wp2_with fail
           go_ret
           exact ⟨rfl,HF09.out.trans HWf.out⟩
          ·have hw9:=HF8.out (.int .i64 0) (.int .i64 0) (.string ⟨#[]⟩) (.slice none 0 0) (.slice none 0 0)
           generalize (((((w1.setCell ⟨W9.heap.size,0,none⟩ (.int .i64 0)).setCell ⟨W9.heap.size,1,none⟩ (.int .i64 0)).setCell ⟨W9.heap.size,2,none⟩ (.string ⟨#[]⟩)).setCell ⟨W9.heap.size,3,none⟩ (.slice none 0 0)).setCell ⟨W9.heap.size,4,none⟩ (.slice none 0 0))=Wf at hw9 ⊢
           have HWf:=Lib.hid hw9
           have z4:=(HCM.out _ (HF79.out.trans hw9)).1
           have m1:=(HCU.out _ (HF79.out.trans hw9)).1
           clear hw9
           go_wp2_with fail
           go_ret
           exact ⟨rfl,HF09.out.trans HWf.out⟩
         ·have hq1:(u.kd == 1)=false:=by rw [beq_eq_false_iff_ne];exact hk1
          have HC:Hid (∀ W S,Fr W9 W→S=(⟨#[47]⟩:ByteArray)++⟨nm.toArray⟩→Calls Tryz.prog 23 #[.agg #[.int .i64 x.kd,.int .i64 x.nm,.string ⟨x.tx.toArray⟩,.slice D1 x.ls.length g1,.slice D1' x.ms.length g1'],.string S] W fun e w'=>(∃ E e9 E' e9',e=.returned (.tuple #[.agg #[.int .i64 u.kd,.int .i64 u.nm,.string ⟨u.tx.toArray⟩,.slice E u.ls.length e9,.slice E' u.ms.length e9'],.int .i64 0])∧InV w' (Ne W9.heap.size W w') u (vA u E e9 E' e9'))∧Fr W w'):=Lib.hid (fun W S hW hS=>by
           obtain ⟨hd,hz⟩:=HSN.out S hS
           have hf:=HFI.out
           rw [if_neg hk1] at hf
           exact find_someZ x u D1 g1 D1' g1' S m W W9.heap.size hW.size (((HI5.out.keep (Nat.le_refl _) HF59.out).lo HF59.out.size).keep (Nat.le_refl _) hW) HXN.out.1 hz (HM.out.keep (HF09.out.trans hW)) (by rw [hd];exact HPPE.out) hf)
          clear hk1
          go_region_held3 (fun W=>W.cell? ⟨X5,0,none⟩=some (.int .i64 x.kd)∧W.cell? ⟨X5,1,none⟩=some (.int .i64 x.nm)∧W.cell? ⟨X5,2,none⟩=some (.string ⟨x.tx.toArray⟩)∧W.cell? ⟨X5,3,none⟩=some (.slice D1 x.ls.length g1)∧W.cell? ⟨X5,4,none⟩=some (.slice D1' x.ms.length g1')∧W.cell? ⟨X2,4,none⟩=some (.slice (some ⟨bm,om,none⟩) p.ms.length f')∧W.cell? ⟨bm,om+i*6,none⟩=some (.string ⟨nm.toArray⟩))
           (first | with_reducible exact HS.out _ (HF8.out _ _ _ _ _) | with_reducible exact HS.out _ (HF99.out _ _ _ _ _) | with_reducible exact HS.out _ (HF1.out.alloc _) | with_reducible exact HS.out _ HF1.out | with_reducible exact HS.out _ ((Fr.refl _).alloc _).drew | with_reducible exact HS.out _ (Fr.refl _).drew | with_reducible exact HS.out _ (Fr.refl _))
           (first | (go_at_call 23;refine (HC.out _ _ (by with_reducible exact ((Fr.refl W9).alloc _).drew) rfl).mono ?_;rintro e w1 ⟨⟨E,e9,E',e9',rfl,hin⟩,hf⟩;have hb8:Blk w1 W9.heap.size #[.int .i64 0,.int .i64 0,.string ⟨#[]⟩,.slice none 0 0,.slice none 0 0] 25:=(Blk.made W9 _ _).keep ((Fr.refl _).drew.trans hf);obtain ⟨⟨s0,s1,s2,s3,s4⟩,sf0,sf1,sf2,sf3,sf4⟩:=box5 hb8;have HB8:=Lib.hid hb8;have hf1:Fr W9 w1:=(by first | exact hf | exact (Fr.refl _).drew.trans hf | exact ((Fr.refl _).alloc _).drew.trans hf);have HF8:Hid (∀ u0 u1 u2 u3 u4,Fr W9 (((((w1.setCell ⟨W9.heap.size,0,none⟩ u0).setCell ⟨W9.heap.size,1,none⟩ u1).setCell ⟨W9.heap.size,2,none⟩ u2).setCell ⟨W9.heap.size,3,none⟩ u3).setCell ⟨W9.heap.size,4,none⟩ u4)):=Lib.hid (fun u0 u1 u2 u3 u4=>hf1.put5 (X:=W9.heap.size) (Nat.le_refl _) u0 u1 u2 u3 u4);have HF99:Hid (∀ u0 u1 u2 u3 u4,Fr W9 ((((((w1.alloc (.cells #[.int .i64 0,.int .i64 0,.string ⟨#[]⟩,.slice none 0 0,.slice none 0 0] 25)).setCell ⟨w1.heap.size,0,none⟩ u0).setCell ⟨w1.heap.size,1,none⟩ u1).setCell ⟨w1.heap.size,2,none⟩ u2).setCell ⟨w1.heap.size,3,none⟩ u3).setCell ⟨w1.heap.size,4,none⟩ u4)):=Lib.hid (fun u0 u1 u2 u3 u4=>(hf1.alloc _).put5 (X:=w1.heap.size) hf1.size u0 u1 u2 u3 u4);have HIN9:=Lib.hid hin;clear hin;have HF1:=Lib.hid hf1;clear hf1 hf hb8) | (go_at_call 23;refine (HC.out _ _ (by first | with_reducible exact (Fr.refl W9).drew | with_reducible exact Fr.refl W9) rfl).mono ?_;rintro e w1 ⟨⟨E,e9,E',e9',rfl,hin⟩,hf⟩;have hf1:Fr W9 w1:=(by first | exact hf | exact (Fr.refl _).drew.trans hf | exact ((Fr.refl _).alloc _).drew.trans hf);have HF8:Hid (∀ u0 u1 u2 u3 u4,Fr W9 (((((w1.setCell ⟨W9.heap.size,0,none⟩ u0).setCell ⟨W9.heap.size,1,none⟩ u1).setCell ⟨W9.heap.size,2,none⟩ u2).setCell ⟨W9.heap.size,3,none⟩ u3).setCell ⟨W9.heap.size,4,none⟩ u4)):=Lib.hid (fun u0 u1 u2 u3 u4=>hf1.put5 (X:=W9.heap.size) (Nat.le_refl _) u0 u1 u2 u3 u4);have HF99:Hid (∀ u0 u1 u2 u3 u4,Fr W9 ((((((w1.alloc (.cells #[.int .i64 0,.int .i64 0,.string ⟨#[]⟩,.slice none 0 0,.slice none 0 0] 25)).setCell ⟨w1.heap.size,0,none⟩ u0).setCell ⟨w1.heap.size,1,none⟩ u1).setCell ⟨w1.heap.size,2,none⟩ u2).setCell ⟨w1.heap.size,3,none⟩ u3).setCell ⟨w1.heap.size,4,none⟩ u4)):=Lib.hid (fun u0 u1 u2 u3 u4=>(hf1.alloc _).put5 (X:=w1.heap.size) hf1.size u0 u1 u2 u3 u4);have HIN9:=Lib.hid hin;clear hin;have HF1:=Lib.hid hf1;clear hf1 hf))
          ·have hw9:=HF1.out.alloc (.cells #[.int .i64 u.kd,.int .i64 u.nm,.string ⟨u.tx.toArray⟩,.slice E u.ls.length e9,.slice E' u.ms.length e9'] 25)
           have hbx:=Blk.made w1 #[.int .i64 u.kd,.int .i64 u.nm,.string ⟨u.tx.toArray⟩,.slice E u.ls.length e9,.slice E' u.ms.length e9'] 25
           have hin:InV (w1.alloc (.cells #[.int .i64 u.kd,.int .i64 u.nm,.string ⟨u.tx.toArray⟩,.slice E u.ls.length e9,.slice E' u.ms.length e9'] 25)) (Lo (w1.alloc (.cells #[.int .i64 u.kd,.int .i64 u.nm,.string ⟨u.tx.toArray⟩,.slice E u.ls.length e9,.slice E' u.ms.length e9'] 25)).heap.size) u (vA u E e9 E' e9'):=((HIN9.out.more (fun b hb=>by have:=HF1.out.size;rcases hb with hb | hb;exact Nat.lt_of_lt_of_le hb this;exact hb.2)).keep (Nat.le_refl _) ((Fr.refl w1).alloc _)).lo ((Fr.refl w1).alloc _).size
           generalize (w1.alloc (.cells #[.int .i64 u.kd,.int .i64 u.nm,.string ⟨u.tx.toArray⟩,.slice E u.ls.length e9,.slice E' u.ms.length e9'] 25))=Wf at hw9 hbx hin ⊢
           generalize w1.heap.size=X8 at hbx ⊢
           have HWf:=Lib.hid hw9
           have z4:=(HCM.out _ (HF79.out.trans hw9)).1
           have m1:=(HCU.out _ (HF79.out.trans hw9)).1
           have HS21:Hid (∀ W,Fr Wf W→W.cell? ⟨X8,0,none⟩=some (.int .i64 u.kd)∧W.cell? ⟨X8,1,none⟩=some (.int .i64 u.nm)∧W.cell? ⟨X8,2,none⟩=some (.string ⟨u.tx.toArray⟩)∧W.cell? ⟨X8,3,none⟩=some (.slice E u.ls.length e9)∧W.cell? ⟨X8,4,none⟩=some (.slice E' u.ms.length e9')∧W.cell? ⟨X2,4,none⟩=some (.slice (some ⟨bm,om,none⟩) p.ms.length f')∧W.cell? ⟨bm,om+i*6+1,none⟩=some (.int .i64 u.kd)∧W.cell? ⟨bm,om+i*6+1+1,none⟩=some (.int .i64 u.nm)∧W.cell? ⟨bm,om+i*6+1+2,none⟩=some (.string ⟨u.tx.toArray⟩)∧W.cell? ⟨bm,om+i*6+1+3,none⟩=some (.slice G u.ls.length k)∧W.cell? ⟨bm,om+i*6+1+4,none⟩=some (.slice G' u.ms.length k')):=Lib.hid (fun W hW=>⟨(hbx.keep hW).cell 0,(hbx.keep hW).cell 1,(hbx.keep hW).cell 2,(hbx.keep hW).cell 3,(hbx.keep hW).cell 4,(HCM.out _ ((HF79.out.trans hw9).trans hW)).1,(HCU.out _ ((HF79.out.trans hw9).trans hW))⟩)
           have HIB:Hid (∀ W,Fr Wf W→InV W (Lo W.heap.size) u (vA u G k G' k')):=Lib.hid (fun W hW=>(HIV.out.keep (Nat.le_refl _) ((HF79.out.trans hw9).trans hW)).lo ((HF79.out.trans hw9).trans hW).size)
           have HIA:Hid (∀ W,Fr Wf W→InV W (Lo W.heap.size) u (vA u E e9 E' e9')):=Lib.hid (fun W hW=>(hin.keep (Nat.le_refl _) hW).lo hW.size)
           clear hw9 hbx hin
           go_upto_region 21 with fail
           clear z4 m1
           refine wp_region_held_drew (S:=(fun W=>W.cell? ⟨X8,0,none⟩=some (.int .i64 u.kd)∧W.cell? ⟨X8,1,none⟩=some (.int .i64 u.nm)∧W.cell? ⟨X8,2,none⟩=some (.string ⟨u.tx.toArray⟩)∧W.cell? ⟨X8,3,none⟩=some (.slice E u.ls.length e9)∧W.cell? ⟨X8,4,none⟩=some (.slice E' u.ms.length e9')∧W.cell? ⟨X2,4,none⟩=some (.slice (some ⟨bm,om,none⟩) p.ms.length f')∧W.cell? ⟨bm,om+i*6+1,none⟩=some (.int .i64 u.kd)∧W.cell? ⟨bm,om+i*6+1+1,none⟩=some (.int .i64 u.nm)∧W.cell? ⟨bm,om+i*6+1+2,none⟩=some (.string ⟨u.tx.toArray⟩)∧W.cell? ⟨bm,om+i*6+1+3,none⟩=some (.slice G u.ls.length k)∧W.cell? ⟨bm,om+i*6+1+4,none⟩=some (.slice G' u.ms.length k'))) (by kernel_rfl) ?_ (fun hHeld=>?_)
           ·exact HS21.out _ (Fr.refl _).drew
           refine tk (i:=0) (v:=?_) rfl ⟨by rfl,?_⟩ hHeld ?_
           rotate_left
           ·(intro w' hSw;(try dsimp only at hSw);go_simp;try with_reducible rfl)
           try simp only [Act.put,fl]
           refine tk (i:=1) (v:=?_) rfl ⟨by rfl,?_⟩ hHeld ?_
           rotate_left
           ·(intro w' hSw;(try dsimp only at hSw);go_simp;try with_reducible rfl)
           try simp only [Act.put,fl]
           refine tk (i:=2) (v:=?_) rfl ⟨by rfl,?_⟩ hHeld ?_
           rotate_left
           ·(intro w' hSw;(try dsimp only at hSw);go_simp;try with_reducible rfl)
           try simp only [Act.put,fl]
           refine tk (i:=3) (v:=?_) rfl ⟨by rfl,?_⟩ hHeld ?_
           rotate_left
           ·(intro w' hSw;(try dsimp only at hSw);go_simp;try with_reducible rfl)
           try simp only [Act.put,fl]
           refine tk (i:=4) (v:=?_) rfl ⟨by rfl,?_⟩ hHeld ?_
           rotate_left
           ·(intro w' hSw;(try dsimp only at hSw);go_simp;try with_reducible rfl)
           try simp only [Act.put,fl]
           refine tk (i:=5) (v:=?_) rfl ⟨by rfl,?_⟩ hHeld ?_
           rotate_left
           ·(intro w' hSw;(try dsimp only at hSw);go_simp;try with_reducible rfl)
           try simp only [Act.put,fl]
           refine tk (i:=6) (v:=?_) rfl ⟨by rfl,?_⟩ hHeld ?_
           rotate_left
           ·(intro w' hSw;(try dsimp only at hSw);go_simp;try with_reducible rfl)
           try simp only [Act.put,fl]
           refine tk (i:=7) (v:=?_) rfl ⟨by rfl,?_⟩ hHeld ?_
           rotate_left
           ·(intro w' hSw;(try dsimp only at hSw);go_simp;try with_reducible rfl)
           try simp only [Act.put,fl]
           refine tk (i:=8) (v:=?_) rfl ⟨by rfl,?_⟩ hHeld ?_
           rotate_left
           ·(intro w' hSw;(try dsimp only at hSw);go_simp;try with_reducible rfl)
           try simp only [Act.put,fl]
           refine tk (i:=9) (v:=?_) rfl ⟨by rfl,?_⟩ hHeld ?_
           rotate_left
           ·(intro w' hSw;(try dsimp only at hSw);go_simp;try with_reducible rfl)
           try simp only [Act.put,fl]
           refine wpAnyH_ready (rs:=[10]) (by kernel_rfl) (by simp) ?_
           refine AllReadyH.cons rfl (fun K hK=>?_) AllReadyH.nil
           go_simp
           (go_at_call 13;refine (HSM.out u _ E e9 E' e9' G k G' k' (HIA.out _ (Fr.refl Wf).drew) (HIB.out _ (Fr.refl Wf).drew)).mono ?_;rintro e w8 ⟨rfl,hf⟩;have HF21:Hid (Fr Wf w8):=Lib.hid ((Fr.refl Wf).drew.trans hf);clear hf)
           try (refine hK.out _ _ ?_ (fun hHeld2=>?_))
           ·exact HS21.out _ HF21.out
           clear hK K
           try simp only [Act.put,fl]
           refine tk (i:=11) (v:=?_) rfl ⟨by rfl,?_⟩ hHeld2 ?_
           rotate_left
           ·(intro w' hSw;(try dsimp only at hSw);go_simp;try with_reducible rfl)
           try simp only [Act.put,fl]
           refine tk (i:=12) (v:=?_) rfl ⟨by rfl,?_⟩ hHeld2 ?_
           rotate_left
           ·(intro w' hSw;(try dsimp only at hSw);go_simp;try with_reducible rfl)
           try simp only [Act.put,fl]
           refine wpAnyH_done (by kernel_rfl) ?_ _
           clear hHeld hHeld2
           go_wp2_with fail
           go_ret
           exact ⟨rfl,(HF09.out.trans HWf.out).trans HF21.out⟩
          ·have hw9:=HF8.out (.int .i64 u.kd) (.int .i64 u.nm) (.string ⟨u.tx.toArray⟩) (.slice E u.ls.length e9) (.slice E' u.ms.length e9')
           have hbx:Blk _ W9.heap.size #[.int .i64 u.kd,.int .i64 u.nm,.string ⟨u.tx.toArray⟩,.slice E u.ls.length e9,.slice E' u.ms.length e9'] 25:=set5 HB8.out (v0:=.int .i64 u.kd) (v1:=.int .i64 u.nm) (v2:=.string ⟨u.tx.toArray⟩) (v3:=.slice E u.ls.length e9) (v4:=.slice E' u.ms.length e9')
           have hin:InV (((((w1.setCell ⟨W9.heap.size,0,none⟩ (.int .i64 u.kd)).setCell ⟨W9.heap.size,1,none⟩ (.int .i64 u.nm)).setCell ⟨W9.heap.size,2,none⟩ (.string ⟨u.tx.toArray⟩)).setCell ⟨W9.heap.size,3,none⟩ (.slice E u.ls.length e9)).setCell ⟨W9.heap.size,4,none⟩ (.slice E' u.ms.length e9')) (Lo (((((w1.setCell ⟨W9.heap.size,0,none⟩ (.int .i64 u.kd)).setCell ⟨W9.heap.size,1,none⟩ (.int .i64 u.nm)).setCell ⟨W9.heap.size,2,none⟩ (.string ⟨u.tx.toArray⟩)).setCell ⟨W9.heap.size,3,none⟩ (.slice E u.ls.length e9)).setCell ⟨W9.heap.size,4,none⟩ (.slice E' u.ms.length e9')).heap.size) u (vA u E e9 E' e9'):=HIN9.out.map (fun b hb=>Nat.lt_of_lt_of_eq (by rcases hb with hb | hb;exact Nat.lt_of_lt_of_le hb HF1.out.size;exact hb.2:b<w1.heap.size) (by simp [World.setCell])) (fun b o hb=>(st5_frx w1 W9.heap.size _ _ _ _ _).cell (by rcases hb with hb | hb;exact Nat.lt_of_lt_of_le hb HF1.out.size;exact hb.2) (by rcases hb with hb | hb;exact Nat.ne_of_lt hb;(have h1:W9.heap.size+1≤b:=by simpa [World.drew] using hb.1);omega))
           generalize (((((w1.setCell ⟨W9.heap.size,0,none⟩ (.int .i64 u.kd)).setCell ⟨W9.heap.size,1,none⟩ (.int .i64 u.nm)).setCell ⟨W9.heap.size,2,none⟩ (.string ⟨u.tx.toArray⟩)).setCell ⟨W9.heap.size,3,none⟩ (.slice E u.ls.length e9)).setCell ⟨W9.heap.size,4,none⟩ (.slice E' u.ms.length e9'))=Wf at hw9 hbx hin ⊢
           generalize W9.heap.size=X8 at hbx ⊢
           have HWf:=Lib.hid hw9
           have z4:=(HCM.out _ (HF79.out.trans hw9)).1
           have m1:=(HCU.out _ (HF79.out.trans hw9)).1
           have HS21:Hid (∀ W,Fr Wf W→W.cell? ⟨X8,0,none⟩=some (.int .i64 u.kd)∧W.cell? ⟨X8,1,none⟩=some (.int .i64 u.nm)∧W.cell? ⟨X8,2,none⟩=some (.string ⟨u.tx.toArray⟩)∧W.cell? ⟨X8,3,none⟩=some (.slice E u.ls.length e9)∧W.cell? ⟨X8,4,none⟩=some (.slice E' u.ms.length e9')∧W.cell? ⟨X2,4,none⟩=some (.slice (some ⟨bm,om,none⟩) p.ms.length f')∧W.cell? ⟨bm,om+i*6+1,none⟩=some (.int .i64 u.kd)∧W.cell? ⟨bm,om+i*6+1+1,none⟩=some (.int .i64 u.nm)∧W.cell? ⟨bm,om+i*6+1+2,none⟩=some (.string ⟨u.tx.toArray⟩)∧W.cell? ⟨bm,om+i*6+1+3,none⟩=some (.slice G u.ls.length k)∧W.cell? ⟨bm,om+i*6+1+4,none⟩=some (.slice G' u.ms.length k')):=Lib.hid (fun W hW=>⟨(hbx.keep hW).cell 0,(hbx.keep hW).cell 1,(hbx.keep hW).cell 2,(hbx.keep hW).cell 3,(hbx.keep hW).cell 4,(HCM.out _ ((HF79.out.trans hw9).trans hW)).1,(HCU.out _ ((HF79.out.trans hw9).trans hW))⟩)
           have HIB:Hid (∀ W,Fr Wf W→InV W (Lo W.heap.size) u (vA u G k G' k')):=Lib.hid (fun W hW=>(HIV.out.keep (Nat.le_refl _) ((HF79.out.trans hw9).trans hW)).lo ((HF79.out.trans hw9).trans hW).size)
           have HIA:Hid (∀ W,Fr Wf W→InV W (Lo W.heap.size) u (vA u E e9 E' e9')):=Lib.hid (fun W hW=>(hin.keep (Nat.le_refl _) hW).lo hW.size)
           clear hw9 hbx hin
           go_upto_region 21 with fail
           clear z4 m1
           refine wp_region_held_drew (S:=(fun W=>W.cell? ⟨X8,0,none⟩=some (.int .i64 u.kd)∧W.cell? ⟨X8,1,none⟩=some (.int .i64 u.nm)∧W.cell? ⟨X8,2,none⟩=some (.string ⟨u.tx.toArray⟩)∧W.cell? ⟨X8,3,none⟩=some (.slice E u.ls.length e9)∧W.cell? ⟨X8,4,none⟩=some (.slice E' u.ms.length e9')∧W.cell? ⟨X2,4,none⟩=some (.slice (some ⟨bm,om,none⟩) p.ms.length f')∧W.cell? ⟨bm,om+i*6+1,none⟩=some (.int .i64 u.kd)∧W.cell? ⟨bm,om+i*6+1+1,none⟩=some (.int .i64 u.nm)∧W.cell? ⟨bm,om+i*6+1+2,none⟩=some (.string ⟨u.tx.toArray⟩)∧W.cell? ⟨bm,om+i*6+1+3,none⟩=some (.slice G u.ls.length k)∧W.cell? ⟨bm,om+i*6+1+4,none⟩=some (.slice G' u.ms.length k'))) (by kernel_rfl) ?_ (fun hHeld=>?_)
           ·exact HS21.out _ (Fr.refl _).drew
           refine tk (i:=0) (v:=?_) rfl ⟨by rfl,?_⟩ hHeld ?_
           rotate_left
           ·(intro w' hSw;(try dsimp only at hSw);go_simp;try with_reducible rfl)
           try simp only [Act.put,fl]
           refine tk (i:=1) (v:=?_) rfl ⟨by rfl,?_⟩ hHeld ?_
           rotate_left
           ·(intro w' hSw;(try dsimp only at hSw);go_simp;try with_reducible rfl)
           try simp only [Act.put,fl]
           refine tk (i:=2) (v:=?_) rfl ⟨by rfl,?_⟩ hHeld ?_
           rotate_left
           ·(intro w' hSw;(try dsimp only at hSw);go_simp;try with_reducible rfl)
           try simp only [Act.put,fl]
           refine tk (i:=3) (v:=?_) rfl ⟨by rfl,?_⟩ hHeld ?_
           rotate_left
           ·(intro w' hSw;(try dsimp only at hSw);go_simp;try with_reducible rfl)
           try simp only [Act.put,fl]
           refine tk (i:=4) (v:=?_) rfl ⟨by rfl,?_⟩ hHeld ?_
           rotate_left
           ·(intro w' hSw;(try dsimp only at hSw);go_simp;try with_reducible rfl)
           try simp only [Act.put,fl]
           refine tk (i:=5) (v:=?_) rfl ⟨by rfl,?_⟩ hHeld ?_
           rotate_left
           ·(intro w' hSw;(try dsimp only at hSw);go_simp;try with_reducible rfl)
           try simp only [Act.put,fl]
           refine tk (i:=6) (v:=?_) rfl ⟨by rfl,?_⟩ hHeld ?_
           rotate_left
           ·(intro w' hSw;(try dsimp only at hSw);go_simp;try with_reducible rfl)
           try simp only [Act.put,fl]
           refine tk (i:=7) (v:=?_) rfl ⟨by rfl,?_⟩ hHeld ?_
           rotate_left
           ·(intro w' hSw;(try dsimp only at hSw);go_simp;try with_reducible rfl)
           try simp only [Act.put,fl]
           refine tk (i:=8) (v:=?_) rfl ⟨by rfl,?_⟩ hHeld ?_
           rotate_left
           ·(intro w' hSw;(try dsimp only at hSw);go_simp;try with_reducible rfl)
           try simp only [Act.put,fl]
           refine tk (i:=9) (v:=?_) rfl ⟨by rfl,?_⟩ hHeld ?_
           rotate_left
           ·(intro w' hSw;(try dsimp only at hSw);go_simp;try with_reducible rfl)
           try simp only [Act.put,fl]
           refine wpAnyH_ready (rs:=[10]) (by kernel_rfl) (by simp) ?_
           refine AllReadyH.cons rfl (fun K hK=>?_) AllReadyH.nil
           go_simp
           (go_at_call 13;refine (HSM.out u _ E e9 E' e9' G k G' k' (HIA.out _ (Fr.refl Wf).drew) (HIB.out _ (Fr.refl Wf).drew)).mono ?_;rintro e w8 ⟨rfl,hf⟩;have HF21:Hid (Fr Wf w8):=Lib.hid ((Fr.refl Wf).drew.trans hf);clear hf)
           try (refine hK.out _ _ ?_ (fun hHeld2=>?_))
           ·exact HS21.out _ HF21.out
           clear hK K
           try simp only [Act.put,fl]
           refine tk (i:=11) (v:=?_) rfl ⟨by rfl,?_⟩ hHeld2 ?_
           rotate_left
           ·(intro w' hSw;(try dsimp only at hSw);go_simp;try with_reducible rfl)
           try simp only [Act.put,fl]
           refine tk (i:=12) (v:=?_) rfl ⟨by rfl,?_⟩ hHeld2 ?_
           rotate_left
           ·(intro w' hSw;(try dsimp only at hSw);go_simp;try with_reducible rfl)
           try simp only [Act.put,fl]
           refine wpAnyH_done (by kernel_rfl) ?_ _
           clear hHeld hHeld2
           go_wp2_with fail
           go_ret
           exact ⟨rfl,(HF09.out.trans HWf.out).trans HF21.out⟩
     ·have hle':¬ ((m.length:Int)≤(q.length:Int)):=by omega
      have hn9:min (q.length:Int) (m.length:Int)=(q.length:Int):=by omega
      go_wp2_with fail
      go_loopw [15,16] (fun b9 j wr2=>∃ (kk:Nat) (b:Bool),kk≤q.length∧b9=.bool b∧j=.int .i64 kk∧Hid (b=true ↔ ∀ a (h1:a<q.length) (h2:a<m.length),a<kk→q[a]=m[a])∧Hid (Fr W7 wr2)) (fun _ j _=>q.length - (intOf j).toNat)
      case atStart=>exact ⟨0,true,by omega,rfl,rfl,Lib.hid ⟨fun _ a _ _ h=>absurd h (by omega),fun _=>rfl⟩,Lib.hid (Fr.refl _)⟩
      case round=>
       obtain ⟨kk,b,hk,rfl,rfl,hB,hF9⟩:=hrel
       by_cases hlk:kk<q.length
       ·have hlk':(kk:Int)<(q.length:Int):=by omega
        have hkm:kk<m.length:=by omega
        have hkq:kk<q.length:=by omega
        have hkm':(kk:Int)<(m.length:Int):=by omega
        have hkq':(kk:Int)<(q.length:Int):=by omega
        cases b
        ·go_upto_region 16 with fail
         go_quiet (fail)
         go_wp2_with fail
         exact ⟨⟨kk+1,false,by omega,rfl,by go_num,Lib.hid ⟨fun h=>(by cases h),fun h=>hB.out.2 (fun a h1 h2 h3=>h a h1 h2 (by omega))⟩,Lib.hid (hF9.out.trans ((Fr.refl _).drewN _))⟩,by simp [intOf];omega⟩
        ·obtain ⟨bq,oq,rfl,hbq,hcq⟩:=HPS.out (fun e=>by rw [e] at hkq;simp at hkq)
         obtain ⟨b7,o7,rfl,hb7,hc7⟩:=HPS7.out (fun e=>by rw [e] at hkm;simp at hkm)
         have mq:=((((hF.out.trans HF7.out).trans hF9.out)).cell hbq).trans (hcq kk hkq)
         have m7:=(hF9.out.cell hb7).trans (hc7 kk hkm)
         obtain ⟨s1,hs1⟩:∃ s1,q[kk]=s1:=⟨_,rfl⟩
         obtain ⟨s2,hs2⟩:∃ s2,m[kk]=s2:=⟨_,rfl⟩
         rw [hs1] at mq
         rw [hs2] at m7
         have hbn:=bl_beq s1 s2
         have HS1:=Lib.hid hs1
         have HS2:=Lib.hid hs2
         clear hs1 hs2 hbq hb7
         by_cases hss:s1=s2
         ·rw [decide_eq_true hss] at hbn
          have hbn2:(s1 == s2)=true:=by simp [hss]
          have HSS:=Lib.hid hss
          clear hss
          go_upto_region 16 with fail
          go_quiet (fail)
          go_wp2_with fail
          exact ⟨⟨kk+1,true,by omega,rfl,by go_num,Lib.hid ⟨fun _ a h1 h2 h3=>by
           by_cases e:a=kk
           ·subst e;rw [HS1.out,HS2.out,HSS.out]
           ·exact hB.out.1 rfl a h1 h2 (by omega),fun _=>rfl⟩,Lib.hid (hF9.out.trans ((Fr.refl _).drewN _))⟩,by simp [intOf];omega⟩
         ·rw [decide_eq_false hss] at hbn
          have hbn2:(s1 == s2)=false:=by simp [hss]
          have HSS:=Lib.hid hss
          clear hss
          go_upto_region 16 with fail
          go_quiet (fail)
          go_wp2_with fail
          exact ⟨⟨kk+1,false,by omega,rfl,by go_num,Lib.hid ⟨fun h=>(by cases h),fun h=>absurd (HS1.out.symm.trans ((h kk hkq hkm (by omega)).trans HS2.out)) HSS.out⟩,Lib.hid (hF9.out.trans ((Fr.refl _).drewN _))⟩,by simp [intOf];omega⟩
       ·obtain rfl:kk=q.length:=by omega
        cases b
        ·have hno:Hid (Pc.Off m q):=Lib.hid (Pc.alike_off (fun h=>by have:=hB.out.2 (fun a h1 h2 h3=>h a h1 h2);cases this))
         go_wp2_with fail
         exact ⟨⟨i+1,by omega,by go_num,Lib.hid (fun a ha hai=>by
          by_cases e:a=i
          ·subst e;rw [HM1.out];exact hno.out
          ·exact hO.out a ha (by omega)),Lib.hid ((hF.out.trans HF7.out).trans hF9.out)⟩,by simp [intOf];omega⟩
        ·go_wp2_with fail
         go_ret
         exact ⟨rfl,(HFr.out.trans HF7.out).trans hF9.out⟩
    ·obtain rfl:i=p.ms.length:=by omega
     have hoff:Hid (Pt.find false q x=Pt.find false q v):=Lib.hid (HOF.out (fun a ha=>hO.out a ha (by have:=HLL.out;omega)))
     have hb1:=HB1.out.keep HF0r.out
     obtain ⟨⟨y0,y1,y2,y3,y4⟩,_⟩:=box5 hb1
     have hb2:=HB2.out.keep HF0r.out
     obtain ⟨⟨z0,z1,z2,z3,z4⟩,_⟩:=box5 hb2
     have HF5r:Hid (Fr W5 wr):=Lib.hid (HF56.out.trans hF.out)
     clear hb1 hb2
     have hsz:s.size<4294967281:=by omega
     cases hr:Pt.find false q v with
     | none=>
      have HCV:Hid (∀ W,Fr w W→Calls Tryz.prog 23 #[.agg #[.int .i64 v.kd,.int .i64 v.nm,.string ⟨v.tx.toArray⟩,.slice A v.ls.length c0,.slice A' v.ms.length c0'],.string s] W fun e w'=>e=.returned (.tuple #[.agg #[.int .i64 0,.int .i64 0,.string ⟨#[]⟩,.slice none 0 0,.slice none 0 0],.int .i64 81])∧Fr W w'):=Lib.hid (fun W hW=>find_none v A c0 A' c0' s q W (HKV.out W hW) HXN.out.2 hsz (HM.out.keep hW) HQS.out hr)
      have HCX:Hid (∀ W,Fr W5 W→Calls Tryz.prog 23 #[.agg #[.int .i64 x.kd,.int .i64 x.nm,.string ⟨x.tx.toArray⟩,.slice D1 x.ls.length g1,.slice D1' x.ms.length g1'],.string s] W fun e w'=>e=.returned (.tuple #[.agg #[.int .i64 0,.int .i64 0,.string ⟨#[]⟩,.slice none 0 0,.slice none 0 0],.int .i64 81])∧Fr W w'):=Lib.hid (fun W hW=>find_none x D1 g1 D1' g1' s q W ((HI5.out.keep (Nat.le_refl _) hW).lo hW.size) HXN.out.1 hsz (HM.out.keep ((HF0.out.trans HF05.out).trans hW)) HQS.out (hoff.out.trans hr))
      clear hr hsz
      go_upto_region 25 with (go_at_call 23;refine (HCV.out _ HFr.out).mono ?_;rintro e w8 ⟨rfl,hf⟩;have HF8:=Lib.hid hf;clear hf)
      clear y0 y1 y2 y3 y4 z0 z1 z2 z3 z4
      have hb8:=Blk.made w8 #[.int .i64 0,.int .i64 0,.string ⟨#[]⟩,.slice none 0 0,.slice none 0 0] 25
      have hk8:Fr w8 (w8.alloc (.cells #[.int .i64 0,.int .i64 0,.string ⟨#[]⟩,.slice none 0 0,.slice none 0 0] 25)):=(Fr.refl w8).alloc _
      generalize (w8.alloc (.cells #[.int .i64 0,.int .i64 0,.string ⟨#[]⟩,.slice none 0 0,.slice none 0 0] 25))=W8 at hb8 hk8 ⊢
      generalize w8.heap.size=X8 at hb8 ⊢
      have HF58:Hid (Fr W5 W8):=Lib.hid ((HF5r.out.trans HF8.out).trans hk8)
      have HB8:=Lib.hid hb8
      obtain ⟨⟨y0,y1,y2,y3,y4⟩,_⟩:=box5 (HB5.out.keep HF58.out)
      clear hb8 hk8
      go_upto_region 26 with (go_at_call 23;refine (HCX.out _ HF58.out).mono ?_;rintro e w10 ⟨rfl,hf⟩;have HF10:=Lib.hid hf;clear hf)
      clear y0 y1 y2 y3 y4
      have hb9:=Blk.made w10 #[.int .i64 0,.int .i64 0,.string ⟨#[]⟩,.slice none 0 0,.slice none 0 0] 25
      have hk9:Fr w10 (w10.alloc (.cells #[.int .i64 0,.int .i64 0,.string ⟨#[]⟩,.slice none 0 0,.slice none 0 0] 25)):=(Fr.refl w10).alloc _
      generalize (w10.alloc (.cells #[.int .i64 0,.int .i64 0,.string ⟨#[]⟩,.slice none 0 0,.slice none 0 0] 25))=W10 at hb9 hk9 ⊢
      generalize w10.heap.size=X10 at hb9 ⊢
      obtain ⟨⟨y0,y1,y2,y3,y4⟩,_⟩:=box5 (HB8.out.keep (HF10.out.trans hk9))
      obtain ⟨⟨z0,z1,z2,z3,z4⟩,_⟩:=box5 hb9
      have HF510:Hid (Fr W5 W10):=Lib.hid ((HF58.out.trans HF10.out).trans hk9)
      clear hb9 hk9
      go_wp2_with (go_at_call 13;refine (HSM.out JV.zeroV _ none 0 none 0 none 0 none 0 (zeroV_in _ _) (zeroV_in _ _)).mono ?_;rintro e w11 ⟨rfl,hf⟩;have HF11:=Lib.hid hf;clear hf)
      go_ret
      exact ⟨rfl,((HF0.out.trans HF05.out).trans HF510.out).trans HF11.out⟩
     | some y=>
      have HCV:Hid (∀ W,Fr w W→Calls Tryz.prog 23 #[.agg #[.int .i64 v.kd,.int .i64 v.nm,.string ⟨v.tx.toArray⟩,.slice A v.ls.length c0,.slice A' v.ms.length c0'],.string s] W fun e w'=>(∃ E e9 E' e9',e=.returned (.tuple #[.agg #[.int .i64 y.kd,.int .i64 y.nm,.string ⟨y.tx.toArray⟩,.slice E y.ls.length e9,.slice E' y.ms.length e9'],.int .i64 0])∧InV w' (Lo w'.heap.size) y (vA y E e9 E' e9'))∧Fr W w'):=Lib.hid (fun W hW=>find_some v y A c0 A' c0' s q W (HKV.out W hW) HXN.out.2 hsz (HM.out.keep hW) HQS.out hr)
      have HCX:Hid (∀ W,Fr W5 W→Calls Tryz.prog 23 #[.agg #[.int .i64 x.kd,.int .i64 x.nm,.string ⟨x.tx.toArray⟩,.slice D1 x.ls.length g1,.slice D1' x.ms.length g1'],.string s] W fun e w'=>(∃ E e9 E' e9',e=.returned (.tuple #[.agg #[.int .i64 y.kd,.int .i64 y.nm,.string ⟨y.tx.toArray⟩,.slice E y.ls.length e9,.slice E' y.ms.length e9'],.int .i64 0])∧InV w' (Lo w'.heap.size) y (vA y E e9 E' e9'))∧Fr W w'):=Lib.hid (fun W hW=>find_some x y D1 g1 D1' g1' s q W ((HI5.out.keep (Nat.le_refl _) hW).lo hW.size) HXN.out.1 hsz (HM.out.keep ((HF0.out.trans HF05.out).trans hW)) HQS.out (hoff.out.trans hr))
      clear hr hsz
      go_upto_region 25 with (go_at_call 23;refine (HCV.out _ HFr.out).mono ?_;rintro e w8 ⟨⟨E,e9,E',e9',rfl,hi8⟩,hf⟩;have HF8:=Lib.hid hf;have HI8:=Lib.hid hi8;clear hf hi8)
      clear y0 y1 y2 y3 y4 z0 z1 z2 z3 z4
      have hb8:=Blk.made w8 #[.int .i64 y.kd,.int .i64 y.nm,.string ⟨y.tx.toArray⟩,.slice E y.ls.length e9,.slice E' y.ms.length e9'] 25
      have hk8:Fr w8 (w8.alloc (.cells #[.int .i64 y.kd,.int .i64 y.nm,.string ⟨y.tx.toArray⟩,.slice E y.ls.length e9,.slice E' y.ms.length e9'] 25)):=(Fr.refl w8).alloc _
      generalize (w8.alloc (.cells #[.int .i64 y.kd,.int .i64 y.nm,.string ⟨y.tx.toArray⟩,.slice E y.ls.length e9,.slice E' y.ms.length e9'] 25))=W8 at hb8 hk8 ⊢
      generalize w8.heap.size=X8 at hb8 ⊢
      have HF58:Hid (Fr W5 W8):=Lib.hid ((HF5r.out.trans HF8.out).trans hk8)
      have HB8:=Lib.hid hb8
      have HI9:Hid (InV W8 (Lo W8.heap.size) y (vA y E e9 E' e9')):=Lib.hid ((HI8.out.keep (Nat.le_refl _) hk8).lo hk8.size)
      obtain ⟨⟨y0,y1,y2,y3,y4⟩,_⟩:=box5 (HB5.out.keep HF58.out)
      clear hb8 hk8
      go_upto_region 26 with (go_at_call 23;refine (HCX.out _ HF58.out).mono ?_;rintro e w10 ⟨⟨H,h9,H',h9',rfl,hi10⟩,hf⟩;have HF10:=Lib.hid hf;have HI10:=Lib.hid hi10;clear hf hi10)
      clear y0 y1 y2 y3 y4
      have hb9:=Blk.made w10 #[.int .i64 y.kd,.int .i64 y.nm,.string ⟨y.tx.toArray⟩,.slice H y.ls.length h9,.slice H' y.ms.length h9'] 25
      have hk9:Fr w10 (w10.alloc (.cells #[.int .i64 y.kd,.int .i64 y.nm,.string ⟨y.tx.toArray⟩,.slice H y.ls.length h9,.slice H' y.ms.length h9'] 25)):=(Fr.refl w10).alloc _
      generalize (w10.alloc (.cells #[.int .i64 y.kd,.int .i64 y.nm,.string ⟨y.tx.toArray⟩,.slice H y.ls.length h9,.slice H' y.ms.length h9'] 25))=W10 at hb9 hk9 ⊢
      generalize w10.heap.size=X10 at hb9 ⊢
      obtain ⟨⟨y0,y1,y2,y3,y4⟩,_⟩:=box5 (HB8.out.keep (HF10.out.trans hk9))
      obtain ⟨⟨z0,z1,z2,z3,z4⟩,_⟩:=box5 hb9
      have HF510:Hid (Fr W5 W10):=Lib.hid ((HF58.out.trans HF10.out).trans hk9)
      have HI11:Hid (InV W10 (Lo W10.heap.size) y (vA y E e9 E' e9')):=Lib.hid ((HI9.out.keep (Nat.le_refl _) (HF10.out.trans hk9)).lo (HF10.out.trans hk9).size)
      have HI12:Hid (InV W10 (Lo W10.heap.size) y (vA y H h9 H' h9')):=Lib.hid ((HI10.out.keep (Nat.le_refl _) hk9).lo hk9.size)
      clear hb9 hk9
      go_wp2_with (go_at_call 13;refine (HSM.out y _ E e9 E' e9' H h9 H' h9' HI11.out HI12.out).mono ?_;rintro e w11 ⟨rfl,hf⟩;have HF11:=Lib.hid hf;clear hf)
      go_ret
      exact ⟨rfl,((HF0.out.trans HF05.out).trans HF510.out).trans HF11.out⟩
end Go.Proofs.YtlmcfhokfiibkaaGreatDoor
