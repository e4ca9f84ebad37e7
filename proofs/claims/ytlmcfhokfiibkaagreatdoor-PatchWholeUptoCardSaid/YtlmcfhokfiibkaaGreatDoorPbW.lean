/- Chapter 09: PatchWhole's walk. -/
import Derived.Test.YtlmcfhokfiibkaaGreatDoorPaU
import Derived.Test.YtlmcfhokfiibkaaGreatDoorPcy
import Derived.Test.YtlmcfhokfiibkaaGreatDoorSms
import Derived.Test.YtlmcfhokfiibkaaGreatDoorOpenS
namespace Go.Proofs.YtlmcfhokfiibkaaGreatDoor
set_option maxRecDepth 100000
set_option maxHeartbeats 8000000
set_option linter.unusedVariables false
set_option linter.unusedSimpArgs false
open Go.RowKit

theorem esc_ext (s:List UInt8):(⟨(Pt.text [s]).toArray⟩:ByteArray).extract 1 (⟨(Pt.text [s]).toArray⟩:ByteArray).size=⟨(Pt.esc s).toArray⟩:=by
 have:Pt.text [s]=47::Pt.esc s:=by show 47::(Pt.esc s++[])=_;rw [List.append_nil]
 rw [this]
 apply ByteArray.ext
 simp [ByteArray.data_extract,ByteArray.size]
theorem name_is (s:List UInt8) (w:World) (hs:s.length≤4194304):Calls Tryz.prog 20 #[.string ⟨s.toArray⟩] w fun e w'=>e=.returned (.string ⟨(Pt.esc s).toArray⟩)∧Fr w w':=by
 have hz:(Pt.text [s]).length=(Pt.esc s).length+1:=by show (47::(Pt.esc s++[])).length=_;simp
 have he:=Pt.esc_le s
 have HTX:Hid (∀ W b,b<W.heap.size→W.cell? ⟨b,0,none⟩=some (.string ⟨s.toArray⟩)→Calls Tryz.prog 37 #[.slice (some ⟨b,0,none⟩) 1 1] W fun e w'=>e=.returned (.string ⟨(Pt.text [s]).toArray⟩)∧Fr W w'):=Lib.hid (fun W b hb h=>ptext_is [s] (some ⟨b,0,none⟩) 1 W (fun _=>⟨b,0,rfl,hb,fun i hi=>by simp at hi;subst hi;exact h⟩) (by omega) (by simp) (by simp;omega))
 obtain ⟨t,ht⟩:∃ t,Pt.text [s]=t:=⟨_,rfl⟩
 have hx:=esc_ext s
 rw [ht] at HTX hx hz
 rw [← hx]
 have hsz:(⟨t.toArray⟩:ByteArray).size=(Pt.esc s).length+1:=by show t.toArray.size=_;simp [hz]
 have h1:(1:Int)≤((⟨t.toArray⟩:ByteArray).size:Int):=by omega
 have h2:(1:Int)≤(t.length:Int):=by omega
 have h3:1≤t.length:=by omega
 clear ht hx hz
 go_enter Tryz.func20,Tryz.ntmps20
 go_wp2_with (go_at_call 37;refine (HTX.out _ w.heap.size (by simp) (by simp)).mono ?_;rintro e w2 ⟨rfl,hf⟩;have HF2:=Lib.hid (((Fr.refl w).alloc _).trans hf);clear hf)
 go_ret
 exact ⟨by rw [hsz];rfl,HF2.out⟩
namespace Pc
theorem wholeA_succ {m:List (Tx × JV)} {i:Nat} (h:i<m.length):wholeA (m.take (i+1))=wholeA (m.take i)++[(Pt.esc m[i].1,m[i].2)]:=by
 unfold wholeA
 rw [List.take_succ_eq_append_getElem h,List.map_append];rfl
theorem wholeB_succ {v:JV} {m:List (Tx × JV)} {i:Nat} (h:i<m.length) (hg:Pt.get v m[i].1=none):wholeB v (m.take (i+1))=wholeB v (m.take i)++[(Pt.esc m[i].1,JV.nullV)]:=by
 unfold wholeB
 rw [List.take_succ_eq_append_getElem h,List.filter_append,List.map_append,List.filter_cons_of_pos (by rw [hg];rfl)];rfl
theorem wholeB_skip {v x:JV} {m:List (Tx × JV)} {i:Nat} (h:i<m.length) (hg:Pt.get v m[i].1=some x):wholeB v (m.take (i+1))=wholeB v (m.take i):=by
 unfold wholeB
 rw [List.take_succ_eq_append_getElem h,List.filter_append,List.map_append,List.filter_cons_of_neg (by rw [hg];simp)]
 simp
theorem wholeB_len (v:JV) (m:List (Tx × JV)):(wholeB v m).length≤m.length:=by
 unfold wholeB
 rw [List.length_map]
 exact List.length_filter_le _ _
theorem whole_names {v w:JV} {x:Tx × JV} (h:x∈(wholeP v w).ms):∃ y,(y∈v.ms∨y∈w.ms)∧x.1=Pt.esc y.1:=by
 have h:x∈wholeA v.ms++wholeB v w.ms:=h
 rcases List.mem_append.1 h with h | h
 ·obtain ⟨y,hy,rfl⟩:=List.mem_map.1 h;exact ⟨y,.inl hy,rfl⟩
 ·obtain ⟨y,hy,rfl⟩:=List.mem_map.1 h;exact ⟨y,.inr (List.mem_filter.1 hy).1,rfl⟩
theorem whole_likes {v w:JV} (hv:∀ y∈v.ms,y.1.length≤1048576) (hw:∀ y∈w.ms,y.1.length≤1048576) {l:List Chg} (hc:chg (wholeP v w)=some l):Likes (wholeP v w) l:=by
 obtain ⟨_,h2,h3⟩:=chg_some hc
 have hl:l=wholeL v v.ms w.ms:=by
  rw [chg_whole,if_pos h2] at hc
  injection hc with hc
  exact hc.symm
 have hk:∀ x∈l,∃ s:Tx,x.1=[s]∧s.length≤1048576:=fun x hx=>by
  rw [hl] at hx
  unfold wholeL at hx
  rcases List.mem_append.1 hx with hx | hx
  ·obtain ⟨y,hy,rfl⟩:=List.mem_map.1 hx;exact ⟨y.1,rfl,hv y hy⟩
  ·obtain ⟨y,hy,rfl⟩:=List.mem_map.1 hx;exact ⟨y.1,rfl,hw y (List.mem_filter.1 hy).1⟩
 refine ⟨by rw [chgM_len h3];exact h2,fun x hx=>?_,fun x hx=>?_,fun x hx s hs=>?_,fun x hx=>chgM_mem h3 hx⟩
 ·obtain ⟨s,e,_⟩:=hk x hx;rw [e];simp
 ·obtain ⟨s,e,_⟩:=hk x hx;rw [e];simp
 ·obtain ⟨t,e,ht⟩:=hk x hx;rw [e] at hs;rw [List.mem_singleton.1 hs];omega
theorem nvM_app:∀ (a b:List (Tx × JV)),Rd.nvM (a++b)=Rd.nvM a+Rd.nvM b
 | [],b=>by rw [List.nil_append,Rd.nvM_nil];omega
 | x::a,b=>by rw [List.cons_append,Rd.nvM_cons,Rd.nvM_cons,nvM_app a b];omega
theorem wholeA_nv:∀ m:List (Tx × JV),Rd.nvM (wholeA m)=Rd.nvM m
 | []=>rfl
 | x::m=>by
  have:=wholeA_nv m
  unfold wholeA at this ⊢
  rw [List.map_cons,Rd.nvM_cons,Rd.nvM_cons,this]
theorem wholeB_nv (v:JV):∀ m:List (Tx × JV),Rd.nvM (wholeB v m)≤Rd.nvM m
 | []=>Nat.le_refl _
 | x::m=>by
  have ih:=wholeB_nv v m
  have h1:=Rd.nv_pos x.2
  unfold wholeB at ih ⊢
  by_cases h:(Pt.get v x.1).isNone=true
  ·rw [List.filter_cons_of_pos (p:=fun (x:Tx × JV)=>(Pt.get v x.1).isNone) h,List.map_cons,Rd.nvM_cons,Rd.nvM_cons]
   have:Rd.nv JV.nullV=1:=by show Rd.nv (.mk 1 0 [] [] [])=1;rw [Rd.nv_mk,Rd.nvL_nil,Rd.nvM_nil]
   simp only [this]
   omega
  ·rw [List.filter_cons_of_neg (p:=fun (x:Tx × JV)=>(Pt.get v x.1).isNone) h,Rd.nvM_cons];omega
theorem whole_nv (v w:JV):Rd.nv (wholeP v w)≤Rd.nv v+Rd.nv w:=by
 unfold wholeP
 rw [nv_map,nvM_app,wholeA_nv]
 have h1:=wholeB_nv v w.ms
 have h2:=Pt.nv_eq v
 have h3:=Pt.nv_eq w
 omega
end Pc
theorem pwhole_law (v p:JV) (A:Option Addr) (c0:Nat) (A':Option Addr) (c0':Nat) (C:Option Addr) (f:Nat) (C':Option Addr) (f':Nat) (w:World) (hv:InV w (Lo w.heap.size) v (vA v A c0 A' c0')) (hp:InV w (Lo w.heap.size) p (vA p C f C' f')) (hb:JV.bulk v≤1048576) (hbp:JV.bulk p≤1048576) (hT:LowTabs w) (hM:MxL w):
  Calls Tryz.prog 7 #[vA v A c0 A' c0',vA p C f C' f'] w fun e w'=>e=.returned (.bool true)∧Fr w w':=by

 have HT:=Lib.hid hT
 have HM:=Lib.hid hM
 have HA:Hid (vA v A c0 A' c0'=.agg #[.int .i64 v.kd,.int .i64 v.nm,.string ⟨v.tx.toArray⟩,.slice A v.ls.length c0,.slice A' v.ms.length c0']):=rfl
 have HAP:Hid (vA p C f C' f'=.agg #[.int .i64 p.kd,.int .i64 p.nm,.string ⟨p.tx.toArray⟩,.slice C p.ls.length f,.slice C' p.ms.length f']):=rfl
 have n1:=Pc.nv3 v
 have n2:=Pc.nv3 p
 have hkv:∀ W,Fr w W→InV W (Lo W.heap.size) v (vA v A c0 A' c0'):=fun W hW=>(hv.keep (Nat.le_refl _) hW).lo hW.size
 have hkp:∀ W,Fr w W→InV W (Lo W.heap.size) p (vA p C f C' f'):=fun W hW=>(hp.keep (Nat.le_refl _) hW).lo hW.size
 have HAW:Hid (∀ W,Fr w W→Calls Tryz.prog 9 #[] W fun e w'=>e=.returned (.bool true)∧Fr W w'):=Lib.hid (fun W hW=>awake09 W (HT.out.keep hW) (HM.out.keep hW))
 have HFW:Hid (∀ W,Fr w W→Calls Tryz.prog 10 #[.agg #[.int .i64 v.kd,.int .i64 v.nm,.string ⟨v.tx.toArray⟩,.slice A v.ls.length c0,.slice A' v.ms.length c0'],.agg #[.int .i64 p.kd,.int .i64 p.nm,.string ⟨p.tx.toArray⟩,.slice C p.ls.length f,.slice C' p.ms.length f']] W fun e w'=>(∃ b:Bool,e=.returned (.bool b))∧Fr W w'):=Lib.hid (fun W hW=>few09_is v p A c0 A' c0' C f C' f' W (hkv W hW) (hkp W hW) (by omega) (by omega))
 rcases hc1:JV.chk v 1 0 with ⟨k1,q1⟩
 rcases hc2:JV.chk p 1 0 with ⟨k2,q2⟩
 have HC1:Hid (∀ W,Fr w W→Calls Tryz.prog 16 #[.agg #[.int .i64 v.kd,.int .i64 v.nm,.string ⟨v.tx.toArray⟩,.slice A v.ls.length c0,.slice A' v.ms.length c0']] W fun e w'=>e=.returned (.int .i64 (k1:Nat))∧Fr W w'):=Lib.hid (fun W hW=>ccheck_is v A c0 A' c0' W k1 q1 (hkv W hW) hc1)
 have HC2:Hid (∀ W,Fr w W→Calls Tryz.prog 16 #[.agg #[.int .i64 p.kd,.int .i64 p.nm,.string ⟨p.tx.toArray⟩,.slice C p.ls.length f,.slice C' p.ms.length f']] W fun e w'=>e=.returned (.int .i64 (k2:Nat))∧Fr W w'):=Lib.hid (fun W hW=>ccheck_is p C f C' f' W k2 q2 (hkp W hW) hc2)

 by_cases h6:v.kd=6
 rotate_left
 ·obtain ⟨_,q6⟩:=ikind h6
  clear h6
  clear hv hp hb hbp hT hM n1 n2 hkv hkp hc1 hc2
  rw [HA.out,HAP.out]
  go_enter Tryz.func7,Tryz.ntmps7
  go_upto_region 1 with fail
  have hb1:Blk ((w.alloc (.cells #[.int .i64 v.kd,.int .i64 v.nm,.string ⟨v.tx.toArray⟩,.slice A v.ls.length c0,.slice A' v.ms.length c0'] 25)).alloc (.cells #[.int .i64 p.kd,.int .i64 p.nm,.string ⟨p.tx.toArray⟩,.slice C p.ls.length f,.slice C' p.ms.length f'] 25)) w.heap.size #[.int .i64 v.kd,.int .i64 v.nm,.string ⟨v.tx.toArray⟩,.slice A v.ls.length c0,.slice A' v.ms.length c0'] 25:=(Blk.made w _ _).keep ((Fr.refl _).alloc _)
  have hb2:Blk ((w.alloc (.cells #[.int .i64 v.kd,.int .i64 v.nm,.string ⟨v.tx.toArray⟩,.slice A v.ls.length c0,.slice A' v.ms.length c0'] 25)).alloc (.cells #[.int .i64 p.kd,.int .i64 p.nm,.string ⟨p.tx.toArray⟩,.slice C p.ls.length f,.slice C' p.ms.length f'] 25)) (w.heap.size+1) #[.int .i64 p.kd,.int .i64 p.nm,.string ⟨p.tx.toArray⟩,.slice C p.ls.length f,.slice C' p.ms.length f'] 25:=boxz (Blk.made (w.alloc _) _ _)
  have hf0:Fr w ((w.alloc (.cells #[.int .i64 v.kd,.int .i64 v.nm,.string ⟨v.tx.toArray⟩,.slice A v.ls.length c0,.slice A' v.ms.length c0'] 25)).alloc (.cells #[.int .i64 p.kd,.int .i64 p.nm,.string ⟨p.tx.toArray⟩,.slice C p.ls.length f,.slice C' p.ms.length f'] 25)):=((Fr.refl w).alloc _).alloc _
  generalize ((w.alloc (.cells #[.int .i64 v.kd,.int .i64 v.nm,.string ⟨v.tx.toArray⟩,.slice A v.ls.length c0,.slice A' v.ms.length c0'] 25)).alloc (.cells #[.int .i64 p.kd,.int .i64 p.nm,.string ⟨p.tx.toArray⟩,.slice C p.ls.length f,.slice C' p.ms.length f'] 25))=W0 at hb1 hb2 hf0 ⊢
  generalize w.heap.size+1=X2 at hb2 ⊢
  obtain ⟨X1,hX1⟩:∃ X,w.heap.size=X:=⟨_,rfl⟩
  rw [hX1] at hb1 ⊢
  clear hX1
  have HB1:=Lib.hid hb1
  have HB2:=Lib.hid hb2
  have HF0:=Lib.hid hf0
  clear hb1 hb2 hf0
  go_wp2_with (first
   | (go_at_call 9;have hq:=HF2.out;refine (HAW.out _ (HF0.out.trans hq)).mono ?_;rintro e w9 ⟨rfl,hf⟩;have HF9:=Lib.hid ((HF0.out.trans hq).trans hf);clear hf hq)
   | (go_at_call 10;have hq:=HF1.out;refine (HFW.out _ (HF0.out.trans hq)).mono ?_;rintro e w2 ⟨⟨b,rfl⟩,hf⟩;obtain ⟨⟨q0,q1,q2,q3,q4⟩,_⟩:=box5 (HB1.out.keep (hq.trans hf));obtain ⟨⟨r0,r1,r2,r3,r4⟩,_⟩:=box5 (HB2.out.keep (hq.trans hf));have HF2:=Lib.hid (hq.trans hf);clear hf hq;cases b)
   | (go_at_call 9;refine (HAW.out _ HF0.out).mono ?_;rintro e w1 ⟨rfl,hf⟩;obtain ⟨⟨y0,y1,y2,y3,y4⟩,_⟩:=box5 (HB1.out.keep hf);obtain ⟨⟨z0,z1,z2,z3,z4⟩,_⟩:=box5 (HB2.out.keep hf);have HF1:=Lib.hid hf;clear hf))
  all_goals go_ret
  all_goals exact ⟨rfl,HF9.out⟩
 by_cases h6p:p.kd=6
 rotate_left
 ·obtain ⟨_,q6⟩:=ikind h6p
  have q7:(v.kd != 6)=false:=by rw [h6];rfl
  clear h6 h6p
  clear hv hp hb hbp hT hM n1 n2 hkv hkp hc1 hc2
  rw [HA.out,HAP.out]
  go_enter Tryz.func7,Tryz.ntmps7
  go_upto_region 1 with fail
  have hb1:Blk ((w.alloc (.cells #[.int .i64 v.kd,.int .i64 v.nm,.string ⟨v.tx.toArray⟩,.slice A v.ls.length c0,.slice A' v.ms.length c0'] 25)).alloc (.cells #[.int .i64 p.kd,.int .i64 p.nm,.string ⟨p.tx.toArray⟩,.slice C p.ls.length f,.slice C' p.ms.length f'] 25)) w.heap.size #[.int .i64 v.kd,.int .i64 v.nm,.string ⟨v.tx.toArray⟩,.slice A v.ls.length c0,.slice A' v.ms.length c0'] 25:=(Blk.made w _ _).keep ((Fr.refl _).alloc _)
  have hb2:Blk ((w.alloc (.cells #[.int .i64 v.kd,.int .i64 v.nm,.string ⟨v.tx.toArray⟩,.slice A v.ls.length c0,.slice A' v.ms.length c0'] 25)).alloc (.cells #[.int .i64 p.kd,.int .i64 p.nm,.string ⟨p.tx.toArray⟩,.slice C p.ls.length f,.slice C' p.ms.length f'] 25)) (w.heap.size+1) #[.int .i64 p.kd,.int .i64 p.nm,.string ⟨p.tx.toArray⟩,.slice C p.ls.length f,.slice C' p.ms.length f'] 25:=boxz (Blk.made (w.alloc _) _ _)
  have hf0:Fr w ((w.alloc (.cells #[.int .i64 v.kd,.int .i64 v.nm,.string ⟨v.tx.toArray⟩,.slice A v.ls.length c0,.slice A' v.ms.length c0'] 25)).alloc (.cells #[.int .i64 p.kd,.int .i64 p.nm,.string ⟨p.tx.toArray⟩,.slice C p.ls.length f,.slice C' p.ms.length f'] 25)):=((Fr.refl w).alloc _).alloc _
  generalize ((w.alloc (.cells #[.int .i64 v.kd,.int .i64 v.nm,.string ⟨v.tx.toArray⟩,.slice A v.ls.length c0,.slice A' v.ms.length c0'] 25)).alloc (.cells #[.int .i64 p.kd,.int .i64 p.nm,.string ⟨p.tx.toArray⟩,.slice C p.ls.length f,.slice C' p.ms.length f'] 25))=W0 at hb1 hb2 hf0 ⊢
  generalize w.heap.size+1=X2 at hb2 ⊢
  obtain ⟨X1,hX1⟩:∃ X,w.heap.size=X:=⟨_,rfl⟩
  rw [hX1] at hb1 ⊢
  clear hX1
  have HB1:=Lib.hid hb1
  have HB2:=Lib.hid hb2
  have HF0:=Lib.hid hf0
  clear hb1 hb2 hf0
  go_wp2_with (first
   | (go_at_call 9;have hq:=HF2.out;refine (HAW.out _ (HF0.out.trans hq)).mono ?_;rintro e w9 ⟨rfl,hf⟩;have HF9:=Lib.hid ((HF0.out.trans hq).trans hf);clear hf hq)
   | (go_at_call 10;have hq:=HF1.out;refine (HFW.out _ (HF0.out.trans hq)).mono ?_;rintro e w2 ⟨⟨b,rfl⟩,hf⟩;obtain ⟨⟨q0,q1,q2,q3,q4⟩,_⟩:=box5 (HB1.out.keep (hq.trans hf));obtain ⟨⟨r0,r1,r2,r3,r4⟩,_⟩:=box5 (HB2.out.keep (hq.trans hf));have HF2:=Lib.hid (hq.trans hf);clear hf hq;cases b)
   | (go_at_call 9;refine (HAW.out _ HF0.out).mono ?_;rintro e w1 ⟨rfl,hf⟩;obtain ⟨⟨y0,y1,y2,y3,y4⟩,_⟩:=box5 (HB1.out.keep hf);obtain ⟨⟨z0,z1,z2,z3,z4⟩,_⟩:=box5 (HB2.out.keep hf);have HF1:=Lib.hid hf;clear hf))
  all_goals go_ret
  all_goals exact ⟨rfl,HF9.out⟩
 have q6:(v.kd != 6)=false:=by rw [h6];rfl
 have q7:(p.kd != 6)=false:=by rw [h6p];rfl
 by_cases h1:k1=0
 rotate_left
 ·have e1:((k1:Int) != 0)=true:=by rw [bne_iff_ne];omega
  clear h1 h6 h6p
  clear hv hp hb hbp hT hM n1 n2 hkv hkp hc1 hc2
  rw [HA.out,HAP.out]
  go_enter Tryz.func7,Tryz.ntmps7
  go_upto_region 1 with fail
  have hb1:Blk ((w.alloc (.cells #[.int .i64 v.kd,.int .i64 v.nm,.string ⟨v.tx.toArray⟩,.slice A v.ls.length c0,.slice A' v.ms.length c0'] 25)).alloc (.cells #[.int .i64 p.kd,.int .i64 p.nm,.string ⟨p.tx.toArray⟩,.slice C p.ls.length f,.slice C' p.ms.length f'] 25)) w.heap.size #[.int .i64 v.kd,.int .i64 v.nm,.string ⟨v.tx.toArray⟩,.slice A v.ls.length c0,.slice A' v.ms.length c0'] 25:=(Blk.made w _ _).keep ((Fr.refl _).alloc _)
  have hb2:Blk ((w.alloc (.cells #[.int .i64 v.kd,.int .i64 v.nm,.string ⟨v.tx.toArray⟩,.slice A v.ls.length c0,.slice A' v.ms.length c0'] 25)).alloc (.cells #[.int .i64 p.kd,.int .i64 p.nm,.string ⟨p.tx.toArray⟩,.slice C p.ls.length f,.slice C' p.ms.length f'] 25)) (w.heap.size+1) #[.int .i64 p.kd,.int .i64 p.nm,.string ⟨p.tx.toArray⟩,.slice C p.ls.length f,.slice C' p.ms.length f'] 25:=boxz (Blk.made (w.alloc _) _ _)
  have hf0:Fr w ((w.alloc (.cells #[.int .i64 v.kd,.int .i64 v.nm,.string ⟨v.tx.toArray⟩,.slice A v.ls.length c0,.slice A' v.ms.length c0'] 25)).alloc (.cells #[.int .i64 p.kd,.int .i64 p.nm,.string ⟨p.tx.toArray⟩,.slice C p.ls.length f,.slice C' p.ms.length f'] 25)):=((Fr.refl w).alloc _).alloc _
  generalize ((w.alloc (.cells #[.int .i64 v.kd,.int .i64 v.nm,.string ⟨v.tx.toArray⟩,.slice A v.ls.length c0,.slice A' v.ms.length c0'] 25)).alloc (.cells #[.int .i64 p.kd,.int .i64 p.nm,.string ⟨p.tx.toArray⟩,.slice C p.ls.length f,.slice C' p.ms.length f'] 25))=W0 at hb1 hb2 hf0 ⊢
  generalize w.heap.size+1=X2 at hb2 ⊢
  obtain ⟨X1,hX1⟩:∃ X,w.heap.size=X:=⟨_,rfl⟩
  rw [hX1] at hb1 ⊢
  clear hX1
  have HB1:=Lib.hid hb1
  have HB2:=Lib.hid hb2
  have HF0:=Lib.hid hf0
  clear hb1 hb2 hf0
  go_wp2_with (first
   | (go_at_call 9;have hq:=HF3.out;refine (HAW.out _ (HF0.out.trans hq)).mono ?_;rintro e w9 ⟨rfl,hf⟩;have HF9:=Lib.hid ((HF0.out.trans hq).trans hf);clear hf hq)
   | (go_at_call 16;have hq:=HF2.out;refine (HC1.out _ (HF0.out.trans hq)).mono ?_;rintro e w3 ⟨rfl,hf⟩;clear q0 q1 q2 q3 q4 r0 r1 r2 r3 r4;obtain ⟨⟨q0,q1,q2,q3,q4⟩,_⟩:=box5 (HB1.out.keep (hq.trans hf));obtain ⟨⟨r0,r1,r2,r3,r4⟩,_⟩:=box5 (HB2.out.keep (hq.trans hf));have HF3:=Lib.hid (hq.trans hf);clear hf hq)
   | (go_at_call 9;have hq:=HF2.out;refine (HAW.out _ (HF0.out.trans hq)).mono ?_;rintro e w9 ⟨rfl,hf⟩;have HF9:=Lib.hid ((HF0.out.trans hq).trans hf);clear hf hq)
   | (go_at_call 10;have hq:=HF1.out;refine (HFW.out _ (HF0.out.trans hq)).mono ?_;rintro e w2 ⟨⟨b,rfl⟩,hf⟩;obtain ⟨⟨q0,q1,q2,q3,q4⟩,_⟩:=box5 (HB1.out.keep (hq.trans hf));obtain ⟨⟨r0,r1,r2,r3,r4⟩,_⟩:=box5 (HB2.out.keep (hq.trans hf));have HF2:=Lib.hid (hq.trans hf);clear hf hq;cases b)
   | (go_at_call 9;refine (HAW.out _ HF0.out).mono ?_;rintro e w1 ⟨rfl,hf⟩;obtain ⟨⟨y0,y1,y2,y3,y4⟩,_⟩:=box5 (HB1.out.keep hf);obtain ⟨⟨z0,z1,z2,z3,z4⟩,_⟩:=box5 (HB2.out.keep hf);have HF1:=Lib.hid hf;clear hf))
  all_goals go_ret
  all_goals exact ⟨rfl,HF9.out⟩
 by_cases h2:k2=0
 rotate_left
 ·have e2:((k2:Int) != 0)=true:=by rw [bne_iff_ne];omega
  subst h1
  clear h2 h6 h6p
  clear hv hp hb hbp hT hM n1 n2 hkv hkp hc1 hc2
  rw [HA.out,HAP.out]
  go_enter Tryz.func7,Tryz.ntmps7
  go_upto_region 1 with fail
  have hb1:Blk ((w.alloc (.cells #[.int .i64 v.kd,.int .i64 v.nm,.string ⟨v.tx.toArray⟩,.slice A v.ls.length c0,.slice A' v.ms.length c0'] 25)).alloc (.cells #[.int .i64 p.kd,.int .i64 p.nm,.string ⟨p.tx.toArray⟩,.slice C p.ls.length f,.slice C' p.ms.length f'] 25)) w.heap.size #[.int .i64 v.kd,.int .i64 v.nm,.string ⟨v.tx.toArray⟩,.slice A v.ls.length c0,.slice A' v.ms.length c0'] 25:=(Blk.made w _ _).keep ((Fr.refl _).alloc _)
  have hb2:Blk ((w.alloc (.cells #[.int .i64 v.kd,.int .i64 v.nm,.string ⟨v.tx.toArray⟩,.slice A v.ls.length c0,.slice A' v.ms.length c0'] 25)).alloc (.cells #[.int .i64 p.kd,.int .i64 p.nm,.string ⟨p.tx.toArray⟩,.slice C p.ls.length f,.slice C' p.ms.length f'] 25)) (w.heap.size+1) #[.int .i64 p.kd,.int .i64 p.nm,.string ⟨p.tx.toArray⟩,.slice C p.ls.length f,.slice C' p.ms.length f'] 25:=boxz (Blk.made (w.alloc _) _ _)
  have hf0:Fr w ((w.alloc (.cells #[.int .i64 v.kd,.int .i64 v.nm,.string ⟨v.tx.toArray⟩,.slice A v.ls.length c0,.slice A' v.ms.length c0'] 25)).alloc (.cells #[.int .i64 p.kd,.int .i64 p.nm,.string ⟨p.tx.toArray⟩,.slice C p.ls.length f,.slice C' p.ms.length f'] 25)):=((Fr.refl w).alloc _).alloc _
  generalize ((w.alloc (.cells #[.int .i64 v.kd,.int .i64 v.nm,.string ⟨v.tx.toArray⟩,.slice A v.ls.length c0,.slice A' v.ms.length c0'] 25)).alloc (.cells #[.int .i64 p.kd,.int .i64 p.nm,.string ⟨p.tx.toArray⟩,.slice C p.ls.length f,.slice C' p.ms.length f'] 25))=W0 at hb1 hb2 hf0 ⊢
  generalize w.heap.size+1=X2 at hb2 ⊢
  obtain ⟨X1,hX1⟩:∃ X,w.heap.size=X:=⟨_,rfl⟩
  rw [hX1] at hb1 ⊢
  clear hX1
  have HB1:=Lib.hid hb1
  have HB2:=Lib.hid hb2
  have HF0:=Lib.hid hf0
  clear hb1 hb2 hf0
  go_wp2_with (first
   | (go_at_call 9;have hq:=HF4.out;refine (HAW.out _ (HF0.out.trans hq)).mono ?_;rintro e w9 ⟨rfl,hf⟩;have HF9:=Lib.hid ((HF0.out.trans hq).trans hf);clear hf hq)
   | (go_at_call 16;have hq:=HF3.out;refine (HC2.out _ (HF0.out.trans hq)).mono ?_;rintro e w4 ⟨rfl,hf⟩;have HF4:=Lib.hid (hq.trans hf);clear hf hq)
   | (go_at_call 16;have hq:=HF2.out;refine (HC1.out _ (HF0.out.trans hq)).mono ?_;rintro e w3 ⟨rfl,hf⟩;clear q0 q1 q2 q3 q4 r0 r1 r2 r3 r4;obtain ⟨⟨q0,q1,q2,q3,q4⟩,_⟩:=box5 (HB1.out.keep (hq.trans hf));obtain ⟨⟨r0,r1,r2,r3,r4⟩,_⟩:=box5 (HB2.out.keep (hq.trans hf));have HF3:=Lib.hid (hq.trans hf);clear hf hq)
   | (go_at_call 9;have hq:=HF2.out;refine (HAW.out _ (HF0.out.trans hq)).mono ?_;rintro e w9 ⟨rfl,hf⟩;have HF9:=Lib.hid ((HF0.out.trans hq).trans hf);clear hf hq)
   | (go_at_call 10;have hq:=HF1.out;refine (HFW.out _ (HF0.out.trans hq)).mono ?_;rintro e w2 ⟨⟨b,rfl⟩,hf⟩;obtain ⟨⟨q0,q1,q2,q3,q4⟩,_⟩:=box5 (HB1.out.keep (hq.trans hf));obtain ⟨⟨r0,r1,r2,r3,r4⟩,_⟩:=box5 (HB2.out.keep (hq.trans hf));have HF2:=Lib.hid (hq.trans hf);clear hf hq;cases b)
   | (go_at_call 9;refine (HAW.out _ HF0.out).mono ?_;rintro e w1 ⟨rfl,hf⟩;obtain ⟨⟨y0,y1,y2,y3,y4⟩,_⟩:=box5 (HB1.out.keep hf);obtain ⟨⟨z0,z1,z2,z3,z4⟩,_⟩:=box5 (HB2.out.keep hf);have HF1:=Lib.hid hf;clear hf))
  all_goals go_ret
  all_goals exact ⟨rfl,HF9.out⟩
 subst h1
 subst h2
 have hov:JV.okB v=true:=(JV.chk_ok v 1 0 (by rw [hc1])).1
 have hop:JV.okB p=true:=(JV.chk_ok p 1 0 (by rw [hc2])).1
 have hnv:=Pc.whole_nv v p
 have hnmv:∀ y∈v.ms,y.1.length≤1048576:=fun y hy=>by have:=(Pc.bulk_mem hy).1;omega
 have hnmp:∀ y∈p.ms,y.1.length≤1048576:=fun y hy=>by have:=(Pc.bulk_mem hy).1;omega
 have hnm4:∀ x∈(Pc.wholeP v p).ms,x.1.length≤4194304:=fun x hx=>by
  obtain ⟨y,hy,e⟩:=Pc.whole_names hx
  have:=Pt.esc_le y.1
  rw [e]
  rcases hy with hy | hy
  ·have:=hnmv y hy;omega
  ·have:=hnmp y hy;omega
 have hlk:=fun l=>@Pc.whole_likes v p hnmv hnmp l
 have hnp:∀ l,Pc.chg (Pc.wholeP v p)=some l→Pc.fits p l=true → ∀ k,Rd.nv (Pc.putL p (l.take k))≤1048576:=fun l hc hf k=>by
  have:=Pc.fits_nv hc hf k
  omega
 have HFT:Hid (¬ (Pc.wholeP v p).ms.length≤400 → ∀ W A0 a0 B0 b0,Fr w W→InV W (Lo W.heap.size) (Pc.wholeP v p) (vA (Pc.wholeP v p) A0 a0 B0 b0)→Calls Tryz.prog 14 #[.agg #[.int .i64 p.kd,.int .i64 p.nm,.string ⟨p.tx.toArray⟩,.slice C p.ls.length f,.slice C' p.ms.length f'],vA (Pc.wholeP v p) A0 a0 B0 b0] W fun e w'=>e=.returned (.bool false)∧Fr W w'):=Lib.hid (fun hl W A0 a0 B0 b0 hW hi=>by
  have:=pFits_g p (Pc.wholeP v p) C f C' f' A0 a0 B0 b0 W (hkp W hW) hi hnm4 hlk (hM.keep hW)
  rw [Pc.whole_many hl] at this
  exact this)
 have HAY:Hid ((∀ x∈v.ms,x.2.kd≠1)→(Pc.wholeP v p).ms.length≤400 → ∃ x,S7 x v ∧ ∀ W A0 a0 B0 b0,Fr w W→InV W (Lo W.heap.size) (Pc.wholeP v p) (vA (Pc.wholeP v p) A0 a0 B0 b0)→Calls Tryz.prog 11 #[.agg #[.int .i64 p.kd,.int .i64 p.nm,.string ⟨p.tx.toArray⟩,.slice C p.ls.length f,.slice C' p.ms.length f'],vA (Pc.wholeP v p) A0 a0 B0 b0] W fun e w'=>(∃ (D1:Option Addr) (g1:Nat) (D1':Option Addr) (g1':Nat),e=.returned (.tuple #[.agg #[.int .i64 x.kd,.int .i64 x.nm,.string ⟨x.tx.toArray⟩,.slice D1 x.ls.length g1,.slice D1' x.ms.length g1'],.int .i64 0])∧InV w' (Lo w'.heap.size) x (vA x D1 g1 D1' g1'))∧Fr W w'):=Lib.hid (fun hn hl=>by
  obtain ⟨x,hx,h7⟩:=Pc.whole_apply hov hop h6 h6p hn hl
  refine ⟨x,h7,fun W A0 a0 B0 b0 hW hi=>?_⟩
  have:=papply_g p (Pc.wholeP v p) C f C' f' A0 a0 B0 b0 W (hkp W hW) hi hnm4 hlk (hM.keep hW) hnp
  rw [hx] at this
  exact this.mono (fun e w' h=>h.some_))
 have HKV:=Lib.hid hkv
 have HNV:=Lib.hid hnmv
 have HNP:=Lib.hid hnmp
 have HLV:Hid (v.ms.length≤1048576∧p.ms.length≤1048576):=Lib.hid ⟨by have:=Cp.nvM_len v.ms;have:=Pt.nv_eq v;omega,by have:=Cp.nvM_len p.ms;have:=Pt.nv_eq p;omega⟩
 have HH7:Hid (v.kd=6):=Lib.hid h6
 obtain ⟨E9,c9,E9',c9',hvA,_,hms⟩:=hv.open_
 have hE9:A'=E9':=by
  simp only [vA,Value.agg.injEq] at hvA
  have h4:=congrArg (fun q:Array Value=>q.getD 4 undef) hvA
  simp at h4
  exact h4.1
 subst hE9
 have HMS:=Lib.hid hms
 clear hvA hms
 obtain ⟨F9,d9,F9',d9',hvA,_,hms⟩:=hp.open_
 have hF9:C'=F9':=by
  simp only [vA,Value.agg.injEq] at hvA
  have h4:=congrArg (fun q:Array Value=>q.getD 4 undef) hvA
  simp at h4
  exact h4.1
 subst hF9
 have HMP:=Lib.hid hms
 have hlv':(v.ms.length:Int)≤1048576:=by have:=HLV.out;omega
 have hlp':(p.ms.length:Int)≤1048576:=by have:=HLV.out;omega
 clear hv hp hb hbp hT hM n1 n2 hkv hkp hc1 hc2 hov hop hnv hnmv hnmp hnm4 hlk hnp h6 h6p hvA hms
 rw [HA.out,HAP.out]
 go_enter Tryz.func7,Tryz.ntmps7
 go_upto_region 1 with fail
 have hb1:Blk ((w.alloc (.cells #[.int .i64 v.kd,.int .i64 v.nm,.string ⟨v.tx.toArray⟩,.slice A v.ls.length c0,.slice A' v.ms.length c0'] 25)).alloc (.cells #[.int .i64 p.kd,.int .i64 p.nm,.string ⟨p.tx.toArray⟩,.slice C p.ls.length f,.slice C' p.ms.length f'] 25)) w.heap.size #[.int .i64 v.kd,.int .i64 v.nm,.string ⟨v.tx.toArray⟩,.slice A v.ls.length c0,.slice A' v.ms.length c0'] 25:=(Blk.made w _ _).keep ((Fr.refl _).alloc _)
 have hb2:Blk ((w.alloc (.cells #[.int .i64 v.kd,.int .i64 v.nm,.string ⟨v.tx.toArray⟩,.slice A v.ls.length c0,.slice A' v.ms.length c0'] 25)).alloc (.cells #[.int .i64 p.kd,.int .i64 p.nm,.string ⟨p.tx.toArray⟩,.slice C p.ls.length f,.slice C' p.ms.length f'] 25)) (w.heap.size+1) #[.int .i64 p.kd,.int .i64 p.nm,.string ⟨p.tx.toArray⟩,.slice C p.ls.length f,.slice C' p.ms.length f'] 25:=boxz (Blk.made (w.alloc _) _ _)
 have hf0:Fr w ((w.alloc (.cells #[.int .i64 v.kd,.int .i64 v.nm,.string ⟨v.tx.toArray⟩,.slice A v.ls.length c0,.slice A' v.ms.length c0'] 25)).alloc (.cells #[.int .i64 p.kd,.int .i64 p.nm,.string ⟨p.tx.toArray⟩,.slice C p.ls.length f,.slice C' p.ms.length f'] 25)):=((Fr.refl w).alloc _).alloc _
 generalize ((w.alloc (.cells #[.int .i64 v.kd,.int .i64 v.nm,.string ⟨v.tx.toArray⟩,.slice A v.ls.length c0,.slice A' v.ms.length c0'] 25)).alloc (.cells #[.int .i64 p.kd,.int .i64 p.nm,.string ⟨p.tx.toArray⟩,.slice C p.ls.length f,.slice C' p.ms.length f'] 25))=W0 at hb1 hb2 hf0 ⊢
 generalize w.heap.size+1=X2 at hb2 ⊢
 obtain ⟨X1,hX1⟩:∃ X,w.heap.size=X:=⟨_,rfl⟩
 rw [hX1] at hb1 ⊢
 clear hX1
 have HB1:=Lib.hid hb1
 have HB2:=Lib.hid hb2
 have HF0:=Lib.hid hf0
 clear hb1 hb2 hf0
 go_upto_region 3 with (first
  | (go_at_call 16;have hq:=HF3.out;refine (HC2.out _ (HF0.out.trans hq)).mono ?_;rintro e w4 ⟨rfl,hf⟩;have HF4:=Lib.hid (hq.trans hf);clear hf hq)
  | (go_at_call 16;have hq:=HF2.out;refine (HC1.out _ (HF0.out.trans hq)).mono ?_;rintro e w3 ⟨rfl,hf⟩;clear q0 q1 q2 q3 q4 r0 r1 r2 r3 r4;obtain ⟨⟨q0,q1,q2,q3,q4⟩,_⟩:=box5 (HB1.out.keep (hq.trans hf));obtain ⟨⟨r0,r1,r2,r3,r4⟩,_⟩:=box5 (HB2.out.keep (hq.trans hf));have HF3:=Lib.hid (hq.trans hf);clear hf hq)
  | (go_at_call 10;have hq:=HF1.out;refine (HFW.out _ (HF0.out.trans hq)).mono ?_;rintro e w2 ⟨⟨b,rfl⟩,hf⟩;obtain ⟨⟨q0,q1,q2,q3,q4⟩,_⟩:=box5 (HB1.out.keep (hq.trans hf));obtain ⟨⟨r0,r1,r2,r3,r4⟩,_⟩:=box5 (HB2.out.keep (hq.trans hf));have HF2:=Lib.hid (hq.trans hf);clear hf hq;cases b)
  | (go_at_call 9;refine (HAW.out _ HF0.out).mono ?_;rintro e w1 ⟨rfl,hf⟩;obtain ⟨⟨y0,y1,y2,y3,y4⟩,_⟩:=box5 (HB1.out.keep hf);obtain ⟨⟨z0,z1,z2,z3,z4⟩,_⟩:=box5 (HB2.out.keep hf);have HF1:=Lib.hid hf;clear hf))
 ·go_wp2_with (go_at_call 9;have hq:=HF2.out;refine (HAW.out _ (HF0.out.trans hq)).mono ?_;rintro e w9 ⟨rfl,hf⟩;have HF9:=Lib.hid ((HF0.out.trans hq).trans hf);clear hf hq)
  go_ret
  exact ⟨rfl,HF9.out⟩
 clear y0 y1 y2 y3 y4 z0 z1 z2 z3 z4 q0 q1 q2 q3 q4 r0 r1 r2 r3 r4
 go_upto_region 4 with fail
 have hb5:=Blk.made w4 #[.int .i64 6,.int .i64 0,.string ⟨#[]⟩,.slice none 0 0,(.slice none 0 0)] 25
 have hk5:Fr w4 (w4.alloc (.cells #[.int .i64 6,.int .i64 0,.string ⟨#[]⟩,.slice none 0 0,(.slice none 0 0)] 25)):=(Fr.refl w4).alloc _
 generalize (w4.alloc (.cells #[.int .i64 6,.int .i64 0,.string ⟨#[]⟩,.slice none 0 0,(.slice none 0 0)] 25))=W3 at hb5 hk5 ⊢
 obtain ⟨X5,hX5⟩:∃ X,w4.heap.size=X:=⟨_,rfl⟩
 rw [hX5] at hb5 ⊢
 have HF03:Hid (Fr W0 W3):=Lib.hid (HF4.out.trans hk5)
 have HXX:Hid ((w.heap.size≤X5∧W0.heap.size≤X5)∧(X1<X5∧X2<X5)∧X5<W3.heap.size):=Lib.hid ⟨by have:=HF0.out.size;have:=HF4.out.size;omega,by have:=HB1.out.lt;have:=HB2.out.lt;have:=HF4.out.size;omega,hb5.lt⟩
 have HB5:=Lib.hid hb5
 obtain ⟨⟨y0,y1,y2,y3,y4⟩,_⟩:=box5 (HB1.out.keep HF03.out)
 clear hb5 hk5 hX5
 go_wp2_with fail
 clear y0 y1 y2 y3 y4
 go_loopw [6] (fun j wr=>∃ (i:Nat) (sv:Value),i≤v.ms.length∧j=.int .i64 i∧Hid (FrX X5 W3 wr)∧Hid (Blk wr X5 #[.int .i64 6,.int .i64 0,.string ⟨#[]⟩,.slice none 0 0,sv] 25)∧Hid (MgT wr (Lo w.heap.size) W3.heap.size sv (Pc.wholeA (v.ms.take i)))∧Hid (∀ x∈v.ms.take i,x.2.kd≠1)) (fun j _=>v.ms.length - (intOf j).toNat)
 case atStart=>exact ⟨0,_,by omega,rfl,Lib.hid (FrX.refl X5 W3),HB5,Lib.hid (MgT.none_ _ ⟨fun b hb=>by have:b<w.heap.size:=hb;have:=HXX.out;omega,Nat.le_refl _⟩),Lib.hid (fun x hx=>absurd hx (by simp))⟩
 case round=>
  obtain ⟨i,sv,hi,rfl,hX,hB,hM,hN⟩:=hrel
  have hb1:=(HB1.out.keep HF03.out).frx hX.out (by have:=HXX.out;omega)
  have hb2:=(HB2.out.keep HF03.out).frx hX.out (by have:=HXX.out;omega)
  have hfr:Fr w wr:=Fr.thenY (HF0.out.trans HF03.out) HXX.out.1.1 (Nat.le_of_lt HXX.out.2.2) hX.out
  have HFR:=Lib.hid hfr
  by_cases hlt:i<v.ms.length
  ·have hlt':(i:Int)<(v.ms.length:Int):=by omega
   obtain ⟨bm,om,G,k,G',k',rfl,hbm,_,m0,⟨m1,m2,m3,m4,m5⟩,hiv⟩:=(HMS.out.keep (Nat.le_refl _) hfr) i hlt
   obtain ⟨⟨y0,y1,y2,y3,y4⟩,_⟩:=box5 hb1
   have hnl:=HNV.out _ (List.getElem_mem hlt)
   have hWA:=Pc.wholeA_succ hlt
   have hTK:∀ x∈v.ms.take (i+1),x∈v.ms.take i∨x=v.ms[i]:=fun x hx=>by
    rw [List.take_succ_eq_append_getElem hlt] at hx
    rcases List.mem_append.1 hx with h | h
    ·exact .inl h
    ·exact .inr (List.mem_singleton.1 h)
   obtain ⟨pu,hpu⟩:∃ pu,v.ms[i]=pu:=⟨_,rfl⟩
   rw [hpu] at m0 m1 m2 m3 m4 m5 hiv hnl hWA hTK
   obtain ⟨nm,u⟩:=pu
   simp only at m0 m1 m2 m3 m4 m5 hiv hnl hWA
   have HTK:=Lib.hid hTK
   by_cases hk1:u.kd=1
   ·have hq1:(u.kd == 1)=true:=by rw [hk1];rfl
    clear hnl hWA hTK hiv hpu hk1 hb1 hb2
    go_wp2_with fail
    go_ret
    exact ⟨rfl,HFR.out⟩
   ·have hq1:(u.kd == 1)=false:=by rw [beq_eq_false_iff_ne];exact hk1
    have HN2:Hid (∀ x∈v.ms.take (i+1),x.2.kd≠1):=Lib.hid (fun x hx=>by
     rcases hTK x hx with h | rfl
     ·exact hN.out x h
     ·exact hk1)
    have hel:=Pt.esc_le nm
    have HNA:Hid (∀ W,Calls Tryz.prog 20 #[.string ⟨nm.toArray⟩] W fun e w'=>e=.returned (.string ⟨(Pt.esc nm).toArray⟩)∧Fr W w'):=Lib.hid (fun W=>name_is nm W (by omega))
    have HNE:Hid ((Pt.esc nm).length≤140737488355328):=Lib.hid (by omega)
    have HIU:Hid (∀ W,Fr wr W→InV W (Lo w.heap.size) u (vA u G k G' k')):=Lib.hid (fun W hW=>hiv.keep HFR.out.size hW)
    obtain ⟨acc,hac⟩:∃ acc,Pc.wholeA (v.ms.take i)=acc:=⟨_,rfl⟩
    have HAL:Hid (acc.length≤1048576):=Lib.hid (by rw [← hac];unfold Pc.wholeA;rw [List.length_map,List.length_take];omega)
    rw [hac] at hM hWA
    have HMT:=hM
    have HB5:=hB
    have HX3:=hX
    have HWA:=Lib.hid hWA
    have HS9:Hid (∀ W,Fr wr W→W.cell? ⟨X5,4,none⟩=some sv∧W.cell? ⟨X1,4,none⟩=some (.slice (some ⟨bm,om,none⟩) v.ms.length c0')∧W.cell? ⟨bm,om+i*6,none⟩=some (.string ⟨nm.toArray⟩)∧W.cell? ⟨bm,om+i*6+1,none⟩=some (.int .i64 u.kd)∧W.cell? ⟨bm,om+i*6+1+1,none⟩=some (.int .i64 u.nm)∧W.cell? ⟨bm,om+i*6+1+2,none⟩=some (.string ⟨u.tx.toArray⟩)∧W.cell? ⟨bm,om+i*6+1+3,none⟩=some (.slice G u.ls.length k)∧W.cell? ⟨bm,om+i*6+1+4,none⟩=some (.slice G' u.ms.length k')):=Lib.hid (fun W hW=>by
     have hb':=Nat.lt_of_lt_of_le hbm HFR.out.size
     exact ⟨(hB.out.keep hW).cell 4,(hb1.keep hW).cell 4,(hW.cell hb').trans m0,(hW.cell hb').trans m1,(hW.cell hb').trans m2,(hW.cell hb').trans m3,(hW.cell hb').trans m4,(hW.cell hb').trans m5⟩)
    have HSB:Hid (∀ W8:World,∀ W:World,Fr wr W8→(∀ b,b<W3.heap.size→W.heap[b]? = W8.heap[b]?)→W.cell? ⟨X5,4,none⟩=some sv∧W.cell? ⟨X1,4,none⟩=some (.slice (some ⟨bm,om,none⟩) v.ms.length c0')∧W.cell? ⟨bm,om+i*6,none⟩=some (.string ⟨nm.toArray⟩)∧W.cell? ⟨bm,om+i*6+1,none⟩=some (.int .i64 u.kd)∧W.cell? ⟨bm,om+i*6+1+1,none⟩=some (.int .i64 u.nm)∧W.cell? ⟨bm,om+i*6+1+2,none⟩=some (.string ⟨u.tx.toArray⟩)∧W.cell? ⟨bm,om+i*6+1+3,none⟩=some (.slice G u.ls.length k)∧W.cell? ⟨bm,om+i*6+1+4,none⟩=some (.slice G' u.ms.length k')):=Lib.hid (fun W8 W h8 hk=>by
     have a:=HS9.out W8 h8
     have hc:∀ b o,b<W3.heap.size→W.cell? ⟨b,o,none⟩=W8.cell? ⟨b,o,none⟩:=fun b o hb=>by unfold World.cell?;rw [hk b hb]
     have hxx:=HXX.out
     have hb':bm<W3.heap.size:=by have:bm<w.heap.size:=hbm;omega
     exact ⟨(hc X5 4 hxx.2.2).trans a.1,(hc X1 4 (by omega)).trans a.2.1,(hc bm _ hb').trans a.2.2.1,(hc bm _ hb').trans a.2.2.2.1,(hc bm _ hb').trans a.2.2.2.2.1,(hc bm _ hb').trans a.2.2.2.2.2.1,(hc bm _ hb').trans a.2.2.2.2.2.2.1,(hc bm _ hb').trans a.2.2.2.2.2.2.2⟩)
    clear hnl hWA hTK hiv hpu hk1 hel hac hb1 hb2 hbm hM hB hX
    go_upto_region 9 with fail
    clear y0 y1 y2 y3 y4 m0 m1 m2 m3 m4 m5
    refine OrdL.begin (x:=19) (fun W=>W.cell? ⟨X5,4,none⟩=some sv∧W.cell? ⟨X1,4,none⟩=some (.slice (some ⟨bm,om,none⟩) v.ms.length c0')∧W.cell? ⟨bm,om+i*6,none⟩=some (.string ⟨nm.toArray⟩)∧W.cell? ⟨bm,om+i*6+1,none⟩=some (.int .i64 u.kd)∧W.cell? ⟨bm,om+i*6+1+1,none⟩=some (.int .i64 u.nm)∧W.cell? ⟨bm,om+i*6+1+2,none⟩=some (.string ⟨u.tx.toArray⟩)∧W.cell? ⟨bm,om+i*6+1+3,none⟩=some (.slice G u.ls.length k)∧W.cell? ⟨bm,om+i*6+1+4,none⟩=some (.slice G' u.ms.length k')) (by kernel_rfl) ?_ (fun hH=>?_)
    ·exact HS9.out _ (Fr.refl _).drew
    refine lq 0 [1,17] rfl hH ?_
    try simp only [Act.put,fl]
    refine lq 1 [17] rfl hH ?_
    try simp only [Act.put,fl]
    refine lq 2 [3,5,6,7,8,15,16,17] rfl hH ?_
    try simp only [Act.put,fl]
    refine lq 3 [5,6,7,8,15,16,17] rfl hH ?_
    try simp only [Act.put,fl]
    refine lq 4 [5,6,7,8,15,16,17] rfl hH ?_
    try simp only [Act.put,fl]
    refine lq 5 [6,7,8,15,16,17] rfl hH ?_
    try simp only [Act.put,fl]
    refine lq 6 [7,8,15,16,17] rfl hH ?_
    try simp only [Act.put,fl]
    refine lq 7 [8,15,16,17] rfl hH ?_
    try simp only [Act.put,fl]
    refine lq 9 [10,12,13,14,15,16,17] rfl hH ?_
    try simp only [Act.put,fl]
    refine lq 10 [12,13,14,15,16,17] rfl hH ?_
    try simp only [Act.put,fl]
    refine lq 11 [12,13,14,15,16,17] rfl hH ?_
    try simp only [Act.put,fl]
    refine lq 12 [13,14,15,16,17] rfl hH ?_
    try simp only [Act.put,fl]
    refine lq 13 [14,15,16,17] rfl hH ?_
    try simp only [Act.put,fl]
    refine lq 14 [15,16,17] rfl hH ?_
    try simp only [Act.put,fl]
    refine OrdL.one (i:=8) rfl (by kernel_rfl) (by rfl) (fun K hK=>?_)
    (go_simp;go_at_call 20;refine (HNA.out _).mono ?_;rintro e w8 ⟨rfl,hf⟩;have HF8:Hid (Fr wr w8):=Lib.hid ((Fr.refl wr).drew.trans hf);clear hf)
    refine hK.out _ _ (HS9.out _ HF8.out) (fun hH3=>?_)
    clear hK K
    try simp only [Act.put,fl]
    refine lq 15 [16,17] rfl hH3 ?_
    try simp only [Act.put,fl]
    refine OrdL.one (i:=16) rfl (by kernel_rfl) (by rfl) (fun K hK=>?_)
    go_simp
    refine hK.out _ _ (HS9.out _ (HF8.out.alloc _)) (fun hH4=>?_)
    clear hK K
    try simp only [Act.put,fl]
    have hm9:=HMT.out.keep HF8.out
    have hin9:=HIU.out _ HF8.out
    refine OrdL.one (i:=17) rfl (by kernel_rfl) (by rfl) (fun K hK=>?_)
    refine step_mT_lit rfl (.tmp 56) (.tmp 71) rfl (Lo w.heap.size) W3.heap.size sv acc rfl hm9 (Pt.esc nm) u G k G' k' rfl HNE.out hin9 1 1 rfl rfl rfl (by have:=HAL.out;omega) ?_
    intro v9 w9 hs9 hg9 ho9
    have hkb:∀ b,b<W3.heap.size→w9.heap[b]? = w8.heap[b]?:=fun b hb=>by have h8:=HF8.out.size;have h3:=HX3.out.size;exact (hg9.block b (Nat.lt_of_lt_of_le (Nat.lt_of_lt_of_le hb (Nat.le_trans h3 h8)) ((Fr.refl w8).alloc _).size) (fun e=>by have:=(hm9.own_lt e.symm).1;omega)).trans (Below.block ((Fr.refl w8).alloc _) b (Nat.lt_of_lt_of_le hb (Nat.le_trans h3 h8)))
    have hb59:Blk w9 X5 #[.int .i64 6,.int .i64 0,.string ⟨#[]⟩,.slice none 0 0,sv] 25:=(hkb X5 HXX.out.2.2).trans (HB5.out.keep HF8.out)
    have hfx9:FrX X5 W3 w9:=FrX.grown2 (HX3.out.fr (HF8.out.alloc _)) hg9 (fun k hk=>(hm9.own_lt hk).1)
    obtain ⟨A9,n9,c9,rfl⟩:∃ A n c,v9=.slice A n c:=by obtain ⟨A,c,e⟩:=hs9.is_slice;exact ⟨A,_,c,e⟩
    refine hK.out _ _ (HSB.out w8 w9 HF8.out hkb) (fun hH5=>?_)
    clear hK K
    try simp only [Act.put,fl]
    obtain ⟨⟨y0,y1,y2,y3,y4⟩,yf0,yf1,yf2,yf3,yf4⟩:=box5 hb59
    refine lq 18 [] rfl hH5 ?_
    try simp only [Act.put,fl]
    refine OrdL.last rfl (by kernel_rfl) (by kernel_rfl) (fun K hK=>?_)
    go_simp
    refine hK.out _ _ ?_
    clear hK K
    try simp only [Act.put,fl]
    have hst:=hs9.frx (fun b hb=>by have:b<w.heap.size:=hb;have:=HXX.out;omega) (by have:=HXX.out;omega) ((FrX.refl X5 w9).setCell (p:=⟨X5,4,none⟩) rfl (.slice A9 n9 c9))
    go_wp2_with fail
    rw [← HWA.out] at hst
    exact ⟨⟨i+1,_,by omega,by go_num,Lib.hid (hfx9.setCell rfl _),Lib.hid (hb59.set 4 _),Lib.hid hst,HN2⟩,by simp [intOf];omega⟩
  ·obtain rfl:i=v.ms.length:=by omega
   have hNN:Hid (∀ x∈v.ms,x.2.kd≠1):=Lib.hid (fun x hx=>hN.out x (by rw [List.take_length];exact hx))
   have hMM:Hid (MgT wr (Lo w.heap.size) W3.heap.size sv (Pc.wholeA v.ms++Pc.wholeB v (p.ms.take 0))):=Lib.hid (by
    have:=hM.out
    rw [List.take_length] at this
    rw [List.take_zero,show Pc.wholeB v []=[] from rfl,List.append_nil]
    exact this)
   obtain ⟨⟨y0,y1,y2,y3,y4⟩,_⟩:=box5 hb1
   obtain ⟨⟨z0,z1,z2,z3,z4⟩,_⟩:=box5 hb2
   have hX0:=hX
   have hB0:=hB
   obtain ⟨sv0,hsv0⟩:∃ s,sv=s:=⟨_,rfl⟩
   clear hb1 hb2 hfr hX hB hM hN hlt hi
   go_wp2_with fail
   clear y0 y1 y2 y3 y4 z0 z1 z2 z3 z4
   go_loopw [7] (fun j wr=>∃ (i:Nat) (sv:Value),i≤p.ms.length∧j=.int .i64 i∧Hid (FrX X5 W3 wr)∧Hid (Blk wr X5 #[.int .i64 6,.int .i64 0,.string ⟨#[]⟩,.slice none 0 0,sv] 25)∧Hid (MgT wr (Lo w.heap.size) W3.heap.size sv (Pc.wholeA v.ms++Pc.wholeB v (p.ms.take i)))) (fun j _=>p.ms.length - (intOf j).toNat)
   case atStart=>exact ⟨0,sv,by omega,rfl,hX0,hB0,hMM⟩
   case round=>
    obtain ⟨i,sv,hi,rfl,hX,hB,hM⟩:=hrel
    have hb1:=(HB1.out.keep HF03.out).frx hX.out (by have:=HXX.out;omega)
    have hb2:=(HB2.out.keep HF03.out).frx hX.out (by have:=HXX.out;omega)
    have hfr:Fr w wr:=Fr.thenY (HF0.out.trans HF03.out) HXX.out.1.1 (Nat.le_of_lt HXX.out.2.2) hX.out
    have HFR:=Lib.hid hfr
    by_cases hlt:i<p.ms.length
    ·have hlt':(i:Int)<(p.ms.length:Int):=by omega
     obtain ⟨bm,om,G,k,G',k',rfl,hbm,_,m0,_,_⟩:=(HMP.out.keep (Nat.le_refl _) hfr) i hlt
     have hnl:=HNP.out _ (List.getElem_mem hlt)
     have hWB:=fun h=>@Pc.wholeB_succ v p.ms i hlt h
     have hWS:=fun x h=>@Pc.wholeB_skip v x p.ms i hlt h
     obtain ⟨⟨z0,z1,z2,z3,z4⟩,_⟩:=box5 hb2
     obtain ⟨nm,hpu⟩:∃ nm,p.ms[i].1=nm:=⟨_,rfl⟩
     rw [hpu] at m0 hnl hWB hWS
     have HHS:Hid (∀ W,Fr wr W→Calls Tryz.prog 21 #[.agg #[.int .i64 v.kd,.int .i64 v.nm,.string ⟨v.tx.toArray⟩,.slice A v.ls.length c0,.slice A' v.ms.length c0'],.string ⟨nm.toArray⟩] W fun e w'=>e=.returned (.bool (Pt.get v nm).isSome)∧Fr W w'):=Lib.hid (fun W hW=>has7_is v A c0 A' c0' nm W W.heap.size (Nat.le_refl _) (HKV.out W (HFR.out.trans hW)))
     have HS13:Hid (∀ W,Fr wr W→W.cell? ⟨X1,0,none⟩=some (.int .i64 v.kd)∧W.cell? ⟨X1,1,none⟩=some (.int .i64 v.nm)∧W.cell? ⟨X1,2,none⟩=some (.string ⟨v.tx.toArray⟩)∧W.cell? ⟨X1,3,none⟩=some (.slice A v.ls.length c0)∧W.cell? ⟨X1,4,none⟩=some (.slice A' v.ms.length c0')∧W.cell? ⟨X2,4,none⟩=some (.slice (some ⟨bm,om,none⟩) p.ms.length f')∧W.cell? ⟨bm,om+i*6,none⟩=some (.string ⟨nm.toArray⟩)):=Lib.hid (fun W hW=>by
      have a:=hb1.keep hW
      exact ⟨a.cell 0,a.cell 1,a.cell 2,a.cell 3,a.cell 4,(hb2.keep hW).cell 4,(hW.cell (Nat.lt_of_lt_of_le hbm HFR.out.size)).trans m0⟩)
     cases hg:Pt.get v nm with
     | some x=>
      have HWS:=Lib.hid (hWS x hg)
      rw [hg] at HHS
      clear hnl hWB hWS hpu hb1 hb2 hbm hg m0
      go_upto_region 13 with fail
      clear z0 z1 z2 z3 z4
      refine wp_region_held_drew (S:=(fun W=>W.cell? ⟨X1,0,none⟩=some (.int .i64 v.kd)∧W.cell? ⟨X1,1,none⟩=some (.int .i64 v.nm)∧W.cell? ⟨X1,2,none⟩=some (.string ⟨v.tx.toArray⟩)∧W.cell? ⟨X1,3,none⟩=some (.slice A v.ls.length c0)∧W.cell? ⟨X1,4,none⟩=some (.slice A' v.ms.length c0')∧W.cell? ⟨X2,4,none⟩=some (.slice (some ⟨bm,om,none⟩) p.ms.length f')∧W.cell? ⟨bm,om+i*6,none⟩=some (.string ⟨nm.toArray⟩))) (by kernel_rfl) ?_ (fun hHeld=>?_)
      ·exact HS13.out _ (Fr.refl _).drew
      refine tk (i:=0) (v:=?_) rfl ⟨by rfl,?_⟩ hHeld ?_
      rotate_left
      ·(intro w' hSw;(try dsimp only at hSw);go_simp;try with_reducible rfl)
      try simp only [Act.put,fl]
      refine tk (i:=1) (v:=?_) rfl ⟨by rfl,?_⟩ hHeld ?_
      rotate_left
      ·(intro w' hSw;(try dsimp only at hSw);go_simp;try with_reducible rfl)
      try simp only [Act.put,fl]
      refine tk (i:=2) (v:=?_) rfl ⟨by rfl,?_⟩ hHeld ?_
      rotate_left
      ·(intro w' hSw;(try dsimp only at hSw);go_simp;try with_reducible rfl)
      try simp only [Act.put,fl]
      refine tk (i:=3) (v:=?_) rfl ⟨by rfl,?_⟩ hHeld ?_
      rotate_left
      ·(intro w' hSw;(try dsimp only at hSw);go_simp;try with_reducible rfl)
      try simp only [Act.put,fl]
      refine tk (i:=4) (v:=?_) rfl ⟨by rfl,?_⟩ hHeld ?_
      rotate_left
      ·(intro w' hSw;(try dsimp only at hSw);go_simp;try with_reducible rfl)
      try simp only [Act.put,fl]
      refine tk (i:=5) (v:=?_) rfl ⟨by rfl,?_⟩ hHeld ?_
      rotate_left
      ·(intro w' hSw;(try dsimp only at hSw);go_simp;try with_reducible rfl)
      try simp only [Act.put,fl]
      refine tk (i:=6) (v:=?_) rfl ⟨by rfl,?_⟩ hHeld ?_
      rotate_left
      ·(intro w' hSw;(try dsimp only at hSw);go_simp;try with_reducible rfl)
      try simp only [Act.put,fl]
      refine wpAnyH_ready (rs:=[7]) (by kernel_rfl) (by simp) ?_
      refine AllReadyH.cons rfl (fun K hK=>?_) AllReadyH.nil
      go_simp
      (go_at_call 21;refine (HHS.out _ (Fr.refl wr).drew).mono ?_;rintro e w7 ⟨rfl,hf⟩;have HF7:Hid (Fr wr w7):=Lib.hid ((Fr.refl wr).drew.trans hf);clear hf)
      try (refine hK.out _ _ ?_ (fun hHeld2=>?_))
      ·exact HS13.out _ HF7.out
      clear hK K
      try simp only [Act.put,fl]
      refine tk (i:=8) (v:=?_) rfl ⟨by rfl,?_⟩ hHeld2 ?_
      rotate_left
      ·(intro w' hSw;(try dsimp only at hSw);go_simp;try with_reducible rfl)
      try simp only [Act.put,fl]
      refine wpAnyH_done (by kernel_rfl) ?_ _
      clear hHeld hHeld2
      go_wp2_with fail
      exact ⟨⟨i+1,sv,by omega,by go_num,Lib.hid (hX.out.fr HF7.out),Lib.hid (hB.out.keep HF7.out),Lib.hid (by rw [HWS.out];exact hM.out.keep HF7.out)⟩,by simp [intOf];omega⟩
     | none=>
      have HWB:=Lib.hid (hWB hg)
      rw [hg] at HHS
      have hel:=Pt.esc_le nm
      have HNA:Hid (∀ W,Calls Tryz.prog 20 #[.string ⟨nm.toArray⟩] W fun e w'=>e=.returned (.string ⟨(Pt.esc nm).toArray⟩)∧Fr W w'):=Lib.hid (fun W=>name_is nm W (by omega))
      have HNE:Hid ((Pt.esc nm).length≤140737488355328):=Lib.hid (by omega)
      have HM0:=Lib.hid m0
      have hB2:=Lib.hid hb2
      have hBM:=Lib.hid hbm
      clear hnl hWB hWS hpu hb1 hb2 hbm hg m0 hel
      go_upto_region 13 with fail
      clear z0 z1 z2 z3 z4
      refine wp_region_held_drew (S:=(fun W=>W.cell? ⟨X1,0,none⟩=some (.int .i64 v.kd)∧W.cell? ⟨X1,1,none⟩=some (.int .i64 v.nm)∧W.cell? ⟨X1,2,none⟩=some (.string ⟨v.tx.toArray⟩)∧W.cell? ⟨X1,3,none⟩=some (.slice A v.ls.length c0)∧W.cell? ⟨X1,4,none⟩=some (.slice A' v.ms.length c0')∧W.cell? ⟨X2,4,none⟩=some (.slice (some ⟨bm,om,none⟩) p.ms.length f')∧W.cell? ⟨bm,om+i*6,none⟩=some (.string ⟨nm.toArray⟩))) (by kernel_rfl) ?_ (fun hHeld=>?_)
      ·exact HS13.out _ (Fr.refl _).drew
      refine tk (i:=0) (v:=?_) rfl ⟨by rfl,?_⟩ hHeld ?_
      rotate_left
      ·(intro w' hSw;(try dsimp only at hSw);go_simp;try with_reducible rfl)
      try simp only [Act.put,fl]
      refine tk (i:=1) (v:=?_) rfl ⟨by rfl,?_⟩ hHeld ?_
      rotate_left
      ·(intro w' hSw;(try dsimp only at hSw);go_simp;try with_reducible rfl)
      try simp only [Act.put,fl]
      refine tk (i:=2) (v:=?_) rfl ⟨by rfl,?_⟩ hHeld ?_
      rotate_left
      ·(intro w' hSw;(try dsimp only at hSw);go_simp;try with_reducible rfl)
      try simp only [Act.put,fl]
      refine tk (i:=3) (v:=?_) rfl ⟨by rfl,?_⟩ hHeld ?_
      rotate_left
      ·(intro w' hSw;(try dsimp only at hSw);go_simp;try with_reducible rfl)
      try simp only [Act.put,fl]
      refine tk (i:=4) (v:=?_) rfl ⟨by rfl,?_⟩ hHeld ?_
      rotate_left
      ·(intro w' hSw;(try dsimp only at hSw);go_simp;try with_reducible rfl)
      try simp only [Act.put,fl]
      refine tk (i:=5) (v:=?_) rfl ⟨by rfl,?_⟩ hHeld ?_
      rotate_left
      ·(intro w' hSw;(try dsimp only at hSw);go_simp;try with_reducible rfl)
      try simp only [Act.put,fl]
      refine tk (i:=6) (v:=?_) rfl ⟨by rfl,?_⟩ hHeld ?_
      rotate_left
      ·(intro w' hSw;(try dsimp only at hSw);go_simp;try with_reducible rfl)
      try simp only [Act.put,fl]
      refine wpAnyH_ready (rs:=[7]) (by kernel_rfl) (by simp) ?_
      refine AllReadyH.cons rfl (fun K hK=>?_) AllReadyH.nil
      go_simp
      (go_at_call 21;refine (HHS.out _ (Fr.refl wr).drew).mono ?_;rintro e w7 ⟨rfl,hf⟩;have HF7:Hid (Fr wr w7):=Lib.hid ((Fr.refl wr).drew.trans hf);clear hf)
      try (refine hK.out _ _ ?_ (fun hHeld2=>?_))
      ·exact HS13.out _ HF7.out
      clear hK K
      try simp only [Act.put,fl]
      refine tk (i:=8) (v:=?_) rfl ⟨by rfl,?_⟩ hHeld2 ?_
      rotate_left
      ·(intro w' hSw;(try dsimp only at hSw);go_simp;try with_reducible rfl)
      try simp only [Act.put,fl]
      refine wpAnyH_done (by kernel_rfl) ?_ _
      clear hHeld hHeld2
      go_upto_region 14 with fail
      obtain ⟨acc,hac⟩:∃ acc,Pc.wholeA v.ms++Pc.wholeB v (p.ms.take i)=acc:=⟨_,rfl⟩
      have HAC:=Lib.hid hac
      have HX3:Hid (FrX X5 W3 w7):=Lib.hid (hX.out.fr HF7.out)
      have HB5:Hid (Blk w7 X5 #[.int .i64 6,.int .i64 0,.string ⟨#[]⟩,.slice none 0 0,sv] 25):=Lib.hid (hB.out.keep HF7.out)
      have HMT:Hid (MgT w7 (Lo w.heap.size) W3.heap.size sv acc):=Lib.hid (by rw [← hac];exact hM.out.keep HF7.out)
      have HAL:Hid (acc.length≤4194304):=Lib.hid (by
       have h1:=Pc.wholeB_len v (p.ms.take i)
       have h2:=HLV.out
       have h3:(p.ms.take i).length≤p.ms.length:=by rw [List.length_take];omega
       rw [← hac,List.length_append]
       unfold Pc.wholeA
       rw [List.length_map];omega)
      have HIU:Hid (∀ W,Fr w7 W→InV W (Lo w.heap.size) JV.nullV (vA JV.nullV none 0 none 0)):=Lib.hid (fun W hW=>InV.leaf _ _ 1 0 [] none none 0 0 (by decide) (by decide) (by decide) (by decide) (by simp))
      have HS9:Hid (∀ W,Fr w7 W→W.cell? ⟨X5,4,none⟩=some sv∧W.cell? ⟨X2,4,none⟩=some (.slice (some ⟨bm,om,none⟩) p.ms.length f')∧W.cell? ⟨bm,om+i*6,none⟩=some (.string ⟨nm.toArray⟩)):=Lib.hid (fun W hW=>⟨(HB5.out.keep hW).cell 4,(hB2.out.keep (HF7.out.trans hW)).cell 4,((HF7.out.trans hW).cell (Nat.lt_of_lt_of_le hBM.out HFR.out.size)).trans HM0.out⟩)
      have HSB:Hid (∀ W8:World,∀ W:World,Fr w7 W8→(∀ b,b<W3.heap.size→W.heap[b]? = W8.heap[b]?)→W.cell? ⟨X5,4,none⟩=some sv∧W.cell? ⟨X2,4,none⟩=some (.slice (some ⟨bm,om,none⟩) p.ms.length f')∧W.cell? ⟨bm,om+i*6,none⟩=some (.string ⟨nm.toArray⟩)):=Lib.hid (fun W8 W h8 hk=>by
       have a:=HS9.out W8 h8
       have hc:∀ b o,b<W3.heap.size→W.cell? ⟨b,o,none⟩=W8.cell? ⟨b,o,none⟩:=fun b o hb=>by unfold World.cell?;rw [hk b hb]
       have hxx:=HXX.out
       have hb':bm<W3.heap.size:=by have:bm<w.heap.size:=hBM.out;omega
       exact ⟨(hc X5 4 hxx.2.2).trans a.1,(hc X2 4 (by omega)).trans a.2.1,(hc bm _ hb').trans a.2.2⟩)
      clear hac hX hB hM
      refine OrdL.begin (x:=14) (fun W=>W.cell? ⟨X5,4,none⟩=some sv∧W.cell? ⟨X2,4,none⟩=some (.slice (some ⟨bm,om,none⟩) p.ms.length f')∧W.cell? ⟨bm,om+i*6,none⟩=some (.string ⟨nm.toArray⟩)) (by kernel_rfl) ?_ (fun hH=>?_)
      ·exact HS9.out _ (Fr.refl _).drew
      refine lq 0 [1,12] rfl hH ?_
      try simp only [Act.put,fl]
      refine lq 1 [12] rfl hH ?_
      try simp only [Act.put,fl]
      refine lq 2 [3,5,6,7,8,10,11,12] rfl hH ?_
      try simp only [Act.put,fl]
      refine lq 3 [5,6,7,8,10,11,12] rfl hH ?_
      try simp only [Act.put,fl]
      refine lq 4 [5,6,7,8,10,11,12] rfl hH ?_
      try simp only [Act.put,fl]
      refine lq 5 [6,7,8,10,11,12] rfl hH ?_
      try simp only [Act.put,fl]
      refine lq 6 [7,8,10,11,12] rfl hH ?_
      try simp only [Act.put,fl]
      refine lq 7 [8,10,11,12] rfl hH ?_
      try simp only [Act.put,fl]
      refine lq 9 [10,11,12] rfl hH ?_
      try simp only [Act.put,fl]
      refine OrdL.one (i:=8) rfl (by kernel_rfl) (by rfl) (fun K hK=>?_)
      (go_simp;go_at_call 20;refine (HNA.out _).mono ?_;rintro e w8 ⟨rfl,hf⟩;have HF8:Hid (Fr w7 w8):=Lib.hid ((Fr.refl w7).drew.trans hf);clear hf)
      refine hK.out _ _ (HS9.out _ HF8.out) (fun hH3=>?_)
      clear hK K
      try simp only [Act.put,fl]
      refine lq 10 [11,12] rfl hH3 ?_
      try simp only [Act.put,fl]
      refine OrdL.one (i:=11) rfl (by kernel_rfl) (by rfl) (fun K hK=>?_)
      go_simp
      refine hK.out _ _ (HS9.out _ (HF8.out.alloc _)) (fun hH4=>?_)
      clear hK K
      try simp only [Act.put,fl]
      have hm9:=HMT.out.keep HF8.out
      have hin9:=HIU.out _ HF8.out
      refine OrdL.one (i:=12) rfl (by kernel_rfl) (by rfl) (fun K hK=>?_)
      refine step_mT_lit rfl (.tmp 91) (.tmp 101) rfl (Lo w.heap.size) W3.heap.size sv acc rfl hm9 (Pt.esc nm) JV.nullV none 0 none 0 rfl HNE.out hin9 1 1 rfl rfl rfl (by have:=HAL.out;omega) ?_
      intro v9 w9 hs9 hg9 ho9
      have hkb:∀ b,b<W3.heap.size→w9.heap[b]? = w8.heap[b]?:=fun b hb=>by have h8:=HF8.out.size;have h3:=HX3.out.size;exact (hg9.block b (Nat.lt_of_lt_of_le (Nat.lt_of_lt_of_le hb (Nat.le_trans h3 h8)) ((Fr.refl w8).alloc _).size) (fun e=>by have:=(hm9.own_lt e.symm).1;omega)).trans (Below.block ((Fr.refl w8).alloc _) b (Nat.lt_of_lt_of_le hb (Nat.le_trans h3 h8)))
      have hb59:Blk w9 X5 #[.int .i64 6,.int .i64 0,.string ⟨#[]⟩,.slice none 0 0,sv] 25:=(hkb X5 HXX.out.2.2).trans (HB5.out.keep HF8.out)
      have hfx9:FrX X5 W3 w9:=FrX.grown2 (HX3.out.fr (HF8.out.alloc _)) hg9 (fun k hk=>(hm9.own_lt hk).1)
      obtain ⟨A9,n9,c9,rfl⟩:∃ A n c,v9=.slice A n c:=by obtain ⟨A,c,e⟩:=hs9.is_slice;exact ⟨A,_,c,e⟩
      refine hK.out _ _ (HSB.out w8 w9 HF8.out hkb) (fun hH5=>?_)
      clear hK K
      try simp only [Act.put,fl]
      obtain ⟨⟨y0,y1,y2,y3,y4⟩,yf0,yf1,yf2,yf3,yf4⟩:=box5 hb59
      refine lq 13 [] rfl hH5 ?_
      try simp only [Act.put,fl]
      refine OrdL.last rfl (by kernel_rfl) (by kernel_rfl) (fun K hK=>?_)
      go_simp
      refine hK.out _ _ ?_
      clear hK K
      try simp only [Act.put,fl]
      have hst:=hs9.frx (fun b hb=>by have:b<w.heap.size:=hb;have:=HXX.out;omega) (by have:=HXX.out;omega) ((FrX.refl X5 w9).setCell (p:=⟨X5,4,none⟩) rfl (.slice A9 n9 c9))
      go_wp2_with fail
      rw [← HAC.out,List.append_assoc,← HWB.out] at hst
      exact ⟨⟨i+1,_,by omega,by go_num,Lib.hid (hfx9.setCell rfl _),Lib.hid (hb59.set 4 _),Lib.hid hst⟩,by simp [intOf];omega⟩
    ·obtain rfl:i=p.ms.length:=by omega
     have hM2:MgT wr (Lo w.heap.size) W3.heap.size sv (Pc.wholeP v p).ms:=by
      have:=hM.out
      rw [List.take_length] at this
      exact this
     obtain ⟨A4,c4,e4⟩:=hM2.is_slice
     subst e4
     have hPL:(Pc.wholeP v p).ms.length≤4194304:=by
      have h1:=Pc.wholeB_len v p.ms
      have h2:=HLV.out
      show (Pc.wholeA v.ms++Pc.wholeB v p.ms).length≤_
      rw [List.length_append]
      unfold Pc.wholeA
      rw [List.length_map];omega
     have hin:=hM2.inV (by omega)
     have HIN:Hid (∀ W,Fr wr W→InV W (Lo W.heap.size) (Pc.wholeP v p) (vA (Pc.wholeP v p) none 0 A4 c4)):=Lib.hid (fun W hW=>by
      have hin2:InV wr (Lo wr.heap.size) (Pc.wholeP v p) (vA (Pc.wholeP v p) none 0 A4 c4):=hin.more (fun b hb=>by
       have:=hfr.size
       rcases hb with hb | hb
       ·have:b<w.heap.size:=hb
        show b<_;omega
       ·exact hb.2)
      exact (hin2.keep (Nat.le_refl _) hW).lo hW.size)
     obtain ⟨N,hN⟩:∃ N,(Pc.wholeP v p).ms.length=N:=⟨_,rfl⟩
     have HCE:Hid (vA (Pc.wholeP v p) none 0 A4 c4=.agg #[.int .i64 6,.int .i64 0,.string ⟨#[]⟩,.slice none 0 0,(.slice A4 N c4)]):=Lib.hid (by rw [← hN];rfl)
     rw [hN] at hB hPL HFT HAY
     rw [HCE.out] at HIN
     obtain ⟨⟨y0,y1,y2,y3,y4⟩,_⟩:=box5 hb2
     obtain ⟨⟨z0,z1,z2,z3,z4⟩,_⟩:=box5 hB.out
     have HB2R:=Lib.hid hb2
     have HB1R:=Lib.hid hb1
     have hN':(N:Int)≤4194304:=by omega
     by_cases hN4:N≤400
     ·have hq4:¬ (400:Int)<(N:Int):=by omega
      obtain ⟨x,hx7,hcx⟩:=HAY.out hNN.out hN4
      have HCX:Hid (∀ W,Fr wr W→Calls Tryz.prog 11 #[.agg #[.int .i64 p.kd,.int .i64 p.nm,.string ⟨p.tx.toArray⟩,.slice C p.ls.length f,.slice C' p.ms.length f'],.agg #[.int .i64 6,.int .i64 0,.string ⟨#[]⟩,.slice none 0 0,(.slice A4 N c4)]] W fun e w'=>(∃ (D1:Option Addr) (g1:Nat) (D1':Option Addr) (g1':Nat),e=.returned (.tuple #[.agg #[.int .i64 x.kd,.int .i64 x.nm,.string ⟨x.tx.toArray⟩,.slice D1 x.ls.length g1,.slice D1' x.ms.length g1'],.int .i64 0])∧InV w' (Lo w'.heap.size) x (vA x D1 g1 D1' g1'))∧Fr W w'):=Lib.hid (fun W hW=>by
       have:=hcx W none 0 A4 c4 (HFR.out.trans hW) (by rw [HCE.out];exact HIN.out W hW)
       rw [HCE.out] at this
       exact this)
      have HSM:Hid (∀ W (D1:Option Addr) (g1:Nat) (D1':Option Addr) (g1':Nat),InV W (Lo W.heap.size) x (vA x D1 g1 D1' g1')→Fr w W→Calls Tryz.prog 18 #[.agg #[.int .i64 x.kd,.int .i64 x.nm,.string ⟨x.tx.toArray⟩,.slice D1 x.ls.length g1,.slice D1' x.ms.length g1'],.agg #[.int .i64 v.kd,.int .i64 v.nm,.string ⟨v.tx.toArray⟩,.slice A v.ls.length c0,.slice A' v.ms.length c0']] W fun e w'=>e=.returned (.bool true)∧Fr W w'):=Lib.hid (fun W D1 g1 D1' g1' h hW=>same7_is hx7 _ _ W h (HKV.out W hW))
      clear hM2 hin hPL hN hb1 hb2 hX hB hM hfr hx7 hcx hN4 hlt hi
      go_upto_region 18 with (go_at_call 11;refine (HCX.out _ (Fr.refl _)).mono ?_;rintro e w8 ⟨⟨D1,g1,D1',g1',rfl,hi⟩,hf⟩;have HI8:=Lib.hid hi;have HF8:=Lib.hid hf;clear hi hf)
      clear y0 y1 y2 y3 y4 z0 z1 z2 z3 z4
      have hb9:=Blk.made w8 #[.int .i64 x.kd,.int .i64 x.nm,.string ⟨x.tx.toArray⟩,.slice D1 x.ls.length g1,.slice D1' x.ms.length g1'] 25
      have hk9:Fr w8 (w8.alloc (.cells #[.int .i64 x.kd,.int .i64 x.nm,.string ⟨x.tx.toArray⟩,.slice D1 x.ls.length g1,.slice D1' x.ms.length g1'] 25)):=(Fr.refl w8).alloc _
      generalize (w8.alloc (.cells #[.int .i64 x.kd,.int .i64 x.nm,.string ⟨x.tx.toArray⟩,.slice D1 x.ls.length g1,.slice D1' x.ms.length g1'] 25))=W9 at hb9 hk9 ⊢
      generalize w8.heap.size=X9 at hb9 ⊢
      have HFR9:Hid (Fr wr W9):=Lib.hid (HF8.out.trans hk9)
      have HI9:Hid (InV W9 (Lo W9.heap.size) x (vA x D1 g1 D1' g1')):=Lib.hid ((HI8.out.keep (Nat.le_refl _) hk9).lo hk9.size)
      obtain ⟨⟨y0,y1,y2,y3,y4⟩,_⟩:=box5 hb9
      obtain ⟨⟨z0,z1,z2,z3,z4⟩,_⟩:=box5 (HB1R.out.keep HFR9.out)
      clear hb9 hk9
      go_wp2_with (go_at_call 18;refine (HSM.out _ D1 g1 D1' g1' HI9.out (HFR.out.trans HFR9.out)).mono ?_;rintro e w10 ⟨rfl,hf⟩;have HF10:=Lib.hid hf;clear hf)
      go_ret
      exact ⟨rfl,(HFR.out.trans HFR9.out).trans HF10.out⟩
     ·have hq4:(400:Int)<(N:Int):=by omega
      have HCX:Hid (∀ W,Fr wr W→Calls Tryz.prog 14 #[.agg #[.int .i64 p.kd,.int .i64 p.nm,.string ⟨p.tx.toArray⟩,.slice C p.ls.length f,.slice C' p.ms.length f'],.agg #[.int .i64 6,.int .i64 0,.string ⟨#[]⟩,.slice none 0 0,(.slice A4 N c4)]] W fun e w'=>e=.returned (.bool false)∧Fr W w'):=Lib.hid (fun W hW=>by
       have:=HFT.out hN4 W none 0 A4 c4 (HFR.out.trans hW) (by rw [HCE.out];exact HIN.out W hW)
       rw [HCE.out] at this
       exact this)
      clear hM2 hin hPL hN hb1 hb2 hX hB hM hfr hN4 hlt hi
      go_wp2_with (go_at_call 14;refine (HCX.out _ (Fr.refl _)).mono ?_;rintro e w8 ⟨rfl,hf⟩;have HF8:=Lib.hid hf;clear hf)
      go_ret
      exact ⟨rfl,HFR.out.trans HF8.out⟩
end Go.Proofs.YtlmcfhokfiibkaaGreatDoor
