/- Chapter 09: the document's put. -/
import Derived.Test.YtlmcfhokfiibkaaGreatDoorPaL
import Derived.Test.YtlmcfhokfiibkaaGreatDoorPcd
import Derived.Test.YtlmcfhokfiibkaaGreatDoorGtS
namespace Go.Proofs.YtlmcfhokfiibkaaGreatDoor
set_option maxRecDepth 100000
set_option maxHeartbeats 8000000
set_option linter.unusedVariables false
set_option linter.unusedSimpArgs false
open Go.RowKit

theorem rpwith_is (v x:JV) (B:Option Addr) (d:Nat) (B':Option Addr) (d':Nat) (C:Option Addr) (f:Nat) (C':Option Addr) (f':Nat) (s:List UInt8) (w:World) (S:Nat→Prop) (hS:∀ b,S b→b<w.heap.size) (hv:InV w S v (vA v B d B' d')) (hx:InV w S x (vA x C f C' f')) (hn:Rd.nv v≤1048576) (hs:s.length≤140737488351232) (l:List (List UInt8 × JV)) (hl:Pt.withM (Pc.mems v) s x=l):
  Calls Tryz.prog 56 #[.agg #[.int .i64 v.kd,.int .i64 v.nm,.string ⟨v.tx.toArray⟩,.slice B v.ls.length d,.slice B' v.ms.length d'],.string ⟨s.toArray⟩,.agg #[.int .i64 x.kd,.int .i64 x.nm,.string ⟨x.tx.toArray⟩,.slice C x.ls.length f,.slice C' x.ms.length f']] w fun e w'=>(∃ (D:Option Addr) (g:Nat),e=.returned (.agg #[.int .i64 6,.int .i64 0,.string ⟨#[]⟩,.slice none 0 0,(.slice D l.length g)])∧InV w' (NeS S w w') (JV.mapV l) (.agg #[.int .i64 6,.int .i64 0,.string ⟨#[]⟩,.slice none 0 0,(.slice D l.length g)]))∧Fr w w':=by
 subst hl
 have h1:=Cp.nvM_len v.ms
 have h2:=Pt.nv_eq v
 refine (rwithS_is v x B d B' d' C f C' f' s w S hS hv hx (by omega) (by omega)).mono ?_
 rintro e w' ⟨D,g,rfl,hi,hf⟩
 exact ⟨⟨D,g,rfl,hi⟩,hf⟩
def RPutAt (ps:List (List UInt8)):Prop:=∀ (v x:JV) (B:Option Addr) (d:Nat) (B':Option Addr) (d':Nat) (C:Option Addr) (f:Nat) (C':Option Addr) (f':Nat) (A:Option Addr) (c:Nat) (w:World) (O:Nat→Prop),(∀ b,O b→b<w.heap.size)→InV w O v (vA v B d B' d')→InV w O x (vA x C f C' f')→PsC w A ps→ps.length≤c→c≤9223372036854775807→(∀ s∈ps,s.length≤140737488351232)→ps.length≤1048577→Rd.nv v≤1048576 → ∀ l,Pc.put v ps x=JV.mapV l →
 Calls Tryz.prog 30 #[.agg #[.int .i64 v.kd,.int .i64 v.nm,.string ⟨v.tx.toArray⟩,.slice B v.ls.length d,.slice B' v.ms.length d'],.slice A ps.length c,.agg #[.int .i64 x.kd,.int .i64 x.nm,.string ⟨x.tx.toArray⟩,.slice C x.ls.length f,.slice C' x.ms.length f']] w fun e w'=>(∃ (D:Option Addr) (g:Nat),e=.returned (.agg #[.int .i64 6,.int .i64 0,.string ⟨#[]⟩,.slice none 0 0,(.slice D l.length g)])∧InV w' (NeS O w w') (JV.mapV l) (.agg #[.int .i64 6,.int .i64 0,.string ⟨#[]⟩,.slice none 0 0,(.slice D l.length g)]))∧Fr w w'
theorem rput_one (s:List UInt8):RPutAt [s]:=by
 intro v x B d B' d' C f C' f' A c w O hZ hv hx hp hc hc2 ht hl2 hn l hl
 obtain ⟨bP,oP,rfl,hbP,hcP⟩:=hp (by simp)
 have hcs:=hcP 0 (by simp)
 simp only [List.getElem_cons_zero,Nat.add_zero] at hcs
 have hs:=ht s (by simp)
 have hkv:∀ W,Fr w W→InV W O v (vA v B d B' d'):=fun W hW=>hv.keepS hZ hW
 have hkx:∀ W,Fr w W→InV W O x (vA x C f C' f'):=fun W hW=>hx.keepS hZ hW
 have HZ:=Lib.hid hZ
 have HNM:Hid (∀ W,Fr w W→W.cell? ⟨bP,oP,none⟩=some (.string ⟨s.toArray⟩)):=Lib.hid (fun W hW=>(hW.cell hbP).trans hcs)
 by_cases h1:x.kd=1
 ·have q1:(x.kd == 1)=true:=by rw [h1];rfl
  have hlw:Bk.woM (Pc.mems v) s=l:=by
   have:(if x.kd=1 then JV.mapV (Bk.woM (Pc.mems v) s) else JV.mapV (Pt.withM (Pc.mems v) s x))=JV.mapV l:=hl
   rw [if_pos h1] at this
   injection this
  have HWO0:Hid (∀ W,Fr w W→Calls Tryz.prog 55 #[.agg #[.int .i64 v.kd,.int .i64 v.nm,.string ⟨v.tx.toArray⟩,.slice B v.ls.length d,.slice B' v.ms.length d'],.string ⟨s.toArray⟩] W fun e w'=>(∃ (D:Option Addr) (g:Nat),e=.returned (.agg #[.int .i64 6,.int .i64 0,.string ⟨#[]⟩,.slice none 0 0,(.slice D l.length g)])∧InV w' (NeS O W w') (JV.mapV l) (.agg #[.int .i64 6,.int .i64 0,.string ⟨#[]⟩,.slice none 0 0,(.slice D l.length g)]))∧Fr W w'):=Lib.hid (fun W hW=>rwo_is v B d B' d' s W O (ltS hZ hW) (hkv W hW) hn l hlw)
  clear hv hx hp hcP hcs hkv hkx hl hlw h1 ht hn hbP
  go_enter Tryz.func30,Tryz.ntmps30
  go_upto_region 1 with fail
  have hb3:Blk (((w.alloc (.cells #[.int .i64 v.kd,.int .i64 v.nm,.string ⟨v.tx.toArray⟩,.slice B v.ls.length d,.slice B' v.ms.length d'] 25)).alloc (.cells #[.int .i64 x.kd,.int .i64 x.nm,.string ⟨x.tx.toArray⟩,.slice C x.ls.length f,.slice C' x.ms.length f'] 25)).alloc (.cells #[.int .i64 0,.int .i64 0,.string ⟨#[]⟩,.slice none 0 0,.slice none 0 0] 25)) w.heap.size #[.int .i64 v.kd,.int .i64 v.nm,.string ⟨v.tx.toArray⟩,.slice B v.ls.length d,.slice B' v.ms.length d'] 25:=((Blk.made w _ _).keep ((Fr.refl _).alloc _)).keep ((Fr.refl _).alloc _)
  have hb5:Blk (((w.alloc (.cells #[.int .i64 v.kd,.int .i64 v.nm,.string ⟨v.tx.toArray⟩,.slice B v.ls.length d,.slice B' v.ms.length d'] 25)).alloc (.cells #[.int .i64 x.kd,.int .i64 x.nm,.string ⟨x.tx.toArray⟩,.slice C x.ls.length f,.slice C' x.ms.length f'] 25)).alloc (.cells #[.int .i64 0,.int .i64 0,.string ⟨#[]⟩,.slice none 0 0,.slice none 0 0] 25)) (w.heap.size+1) #[.int .i64 x.kd,.int .i64 x.nm,.string ⟨x.tx.toArray⟩,.slice C x.ls.length f,.slice C' x.ms.length f'] 25:=(boxz (Blk.made (w.alloc _) _ _)).keep ((Fr.refl _).alloc _)
  have hb6:Blk (((w.alloc (.cells #[.int .i64 v.kd,.int .i64 v.nm,.string ⟨v.tx.toArray⟩,.slice B v.ls.length d,.slice B' v.ms.length d'] 25)).alloc (.cells #[.int .i64 x.kd,.int .i64 x.nm,.string ⟨x.tx.toArray⟩,.slice C x.ls.length f,.slice C' x.ms.length f'] 25)).alloc (.cells #[.int .i64 0,.int .i64 0,.string ⟨#[]⟩,.slice none 0 0,.slice none 0 0] 25)) (w.heap.size+1+1) #[.int .i64 0,.int .i64 0,.string ⟨#[]⟩,.slice none 0 0,.slice none 0 0] 25:=boxz2 (Blk.made ((w.alloc _).alloc _) _ _)
  have hf0:Fr w (((w.alloc (.cells #[.int .i64 v.kd,.int .i64 v.nm,.string ⟨v.tx.toArray⟩,.slice B v.ls.length d,.slice B' v.ms.length d'] 25)).alloc (.cells #[.int .i64 x.kd,.int .i64 x.nm,.string ⟨x.tx.toArray⟩,.slice C x.ls.length f,.slice C' x.ms.length f'] 25)).alloc (.cells #[.int .i64 0,.int .i64 0,.string ⟨#[]⟩,.slice none 0 0,.slice none 0 0] 25)):=(((Fr.refl w).alloc _).alloc _).alloc _
  generalize (((w.alloc (.cells #[.int .i64 v.kd,.int .i64 v.nm,.string ⟨v.tx.toArray⟩,.slice B v.ls.length d,.slice B' v.ms.length d'] 25)).alloc (.cells #[.int .i64 x.kd,.int .i64 x.nm,.string ⟨x.tx.toArray⟩,.slice C x.ls.length f,.slice C' x.ms.length f'] 25)).alloc (.cells #[.int .i64 0,.int .i64 0,.string ⟨#[]⟩,.slice none 0 0,.slice none 0 0] 25))=W0 at hb3 hb5 hb6 hf0 ⊢
  have HXX:Hid (w.heap.size≤w.heap.size+1+1∧w.heap.size+1+1<W0.heap.size∧w.heap.size≤w.heap.size+1+1):=Lib.hid ⟨by omega,hb6.lt,by omega⟩
  generalize w.heap.size+1+1=X6 at hb6 HXX ⊢
  generalize w.heap.size+1=X5 at hb5 ⊢
  obtain ⟨X3,hX3⟩:∃ X,w.heap.size=X:=⟨_,rfl⟩
  have HX3:=Lib.hid hX3
  rw [hX3] at hb3 ⊢
  clear hX3
  have HB3:=Lib.hid hb3
  have HB5:=Lib.hid hb5
  have HB6:=Lib.hid hb6
  have HF0:=Lib.hid hf0
  clear hb3 hb5 hb6 hf0
  have HWO:Hid (∀ W,Fr W0 W→Calls Tryz.prog 55 #[.agg #[.int .i64 v.kd,.int .i64 v.nm,.string ⟨v.tx.toArray⟩,.slice B v.ls.length d,.slice B' v.ms.length d'],.string ⟨s.toArray⟩] W fun e w'=>(∃ (D:Option Addr) (g:Nat),e=.returned (.agg #[.int .i64 6,.int .i64 0,.string ⟨#[]⟩,.slice none 0 0,(.slice D l.length g)])∧InV w' (NeS O W w') (JV.mapV l) (.agg #[.int .i64 6,.int .i64 0,.string ⟨#[]⟩,.slice none 0 0,(.slice D l.length g)]))∧Fr W w'):=Lib.hid (fun W hW=>HWO0.out W (HF0.out.trans hW))
  have HS5:Hid (∀ W,Fr W0 W→W.cell? ⟨X3,0,none⟩=some (.int .i64 v.kd)∧W.cell? ⟨X3,1,none⟩=some (.int .i64 v.nm)∧W.cell? ⟨X3,2,none⟩=some (.string ⟨v.tx.toArray⟩)∧W.cell? ⟨X3,3,none⟩=some (.slice B v.ls.length d)∧W.cell? ⟨X3,4,none⟩=some (.slice B' v.ms.length d')∧W.cell? ⟨bP,oP,none⟩=some (.string ⟨s.toArray⟩)):=Lib.hid (fun W hW=>by
   have a:=HB3.out.keep hW
   exact ⟨a.cell 0,a.cell 1,a.cell 2,a.cell 3,a.cell 4,HNM.out W (HF0.out.trans hW)⟩)
  obtain ⟨⟨y0,y1,y2,y3,y4⟩,_⟩:=box5 HB5.out
  go_upto_region 2 with fail
  refine OrdL.begin (x:=5) (fun W=>W.cell? ⟨X3,0,none⟩=some (.int .i64 v.kd)∧W.cell? ⟨X3,1,none⟩=some (.int .i64 v.nm)∧W.cell? ⟨X3,2,none⟩=some (.string ⟨v.tx.toArray⟩)∧W.cell? ⟨X3,3,none⟩=some (.slice B v.ls.length d)∧W.cell? ⟨X3,4,none⟩=some (.slice B' v.ms.length d')∧W.cell? ⟨bP,oP,none⟩=some (.string ⟨s.toArray⟩)) (by kernel_rfl) ?_ (fun hH=>?_)
  ·exact HS5.out _ (Fr.refl _).drew
  refine lq 0 [4] rfl hH ?_
  try simp only [Act.put,fl]
  refine lq 1 [2,3,4] rfl hH ?_
  try simp only [Act.put,fl]
  refine lq 2 [3,4] rfl hH ?_
  try simp only [Act.put,fl]
  refine lq 3 [4] rfl hH ?_
  try simp only [Act.put,fl]
  refine OrdL.one (i:=4) rfl (by kernel_rfl) (by rfl) (fun K hK=>?_)
  (go_simp;go_at_call 55;refine (HWO.out _ (Fr.refl W0).drew).mono ?_;rintro e w5 ⟨⟨D,g,rfl,hi⟩,hf⟩;have HI5:=Lib.hid hi;have HF5:Hid (Fr W0 w5):=Lib.hid ((Fr.refl W0).drew.trans hf);clear hi hf)
  refine hK.out _ _ (HS5.out _ HF5.out) (fun hH3=>?_)
  clear hK K
  try simp only [Act.put,fl]
  have hb5:=HB6.out.keep HF5.out
  obtain ⟨⟨q0,q1,q2,q3,q4⟩,qf0,qf1,qf2,qf3,qf4⟩:=box5 hb5
  have HBQ:=Lib.hid hb5
  clear hb5
  refine OrdL.last rfl (by kernel_rfl) (by kernel_rfl) (fun K hK=>?_)
  go_simp
  refine hK.out _ _ ?_
  clear hK K
  try simp only [Act.put,fl]
  go_wp2_with fail
  refine bodyPost_ret (results_cv (by rfl) rfl _ X6 (by rfl) _ _ _ _ _ (set5 HBQ.out)) rfl ?_
  exact ⟨⟨D,g,rfl,HI5.out.put6 HZ.out ⟨HXX.out.1,HXX.out.2.1⟩ HF5.out.size HF0.out.size _ _ _ _ _⟩,st5_fr (HF0.out.trans HF5.out) HXX.out.1 _ _ _ _ _⟩
 ·have q1:(x.kd == 1)=false:=(ikind h1).1
  have hlw:Pt.withM (Pc.mems v) s x=l:=by
   have:(if x.kd=1 then JV.mapV (Bk.woM (Pc.mems v) s) else JV.mapV (Pt.withM (Pc.mems v) s x))=JV.mapV l:=hl
   rw [if_neg h1] at this
   injection this
  have HWI0:Hid (∀ W,Fr w W→Calls Tryz.prog 56 #[.agg #[.int .i64 v.kd,.int .i64 v.nm,.string ⟨v.tx.toArray⟩,.slice B v.ls.length d,.slice B' v.ms.length d'],.string ⟨s.toArray⟩,.agg #[.int .i64 x.kd,.int .i64 x.nm,.string ⟨x.tx.toArray⟩,.slice C x.ls.length f,.slice C' x.ms.length f']] W fun e w'=>(∃ (D:Option Addr) (g:Nat),e=.returned (.agg #[.int .i64 6,.int .i64 0,.string ⟨#[]⟩,.slice none 0 0,(.slice D l.length g)])∧InV w' (NeS O W w') (JV.mapV l) (.agg #[.int .i64 6,.int .i64 0,.string ⟨#[]⟩,.slice none 0 0,(.slice D l.length g)]))∧Fr W w'):=Lib.hid (fun W hW=>rpwith_is v x B d B' d' C f C' f' s W O (ltS hZ hW) (hkv W hW) (hkx W hW) hn hs l hlw)
  clear hv hx hp hcP hcs hkv hkx hl hlw h1 ht hn hbP
  go_enter Tryz.func30,Tryz.ntmps30
  go_upto_region 1 with fail
  have hb3:Blk (((w.alloc (.cells #[.int .i64 v.kd,.int .i64 v.nm,.string ⟨v.tx.toArray⟩,.slice B v.ls.length d,.slice B' v.ms.length d'] 25)).alloc (.cells #[.int .i64 x.kd,.int .i64 x.nm,.string ⟨x.tx.toArray⟩,.slice C x.ls.length f,.slice C' x.ms.length f'] 25)).alloc (.cells #[.int .i64 0,.int .i64 0,.string ⟨#[]⟩,.slice none 0 0,.slice none 0 0] 25)) w.heap.size #[.int .i64 v.kd,.int .i64 v.nm,.string ⟨v.tx.toArray⟩,.slice B v.ls.length d,.slice B' v.ms.length d'] 25:=((Blk.made w _ _).keep ((Fr.refl _).alloc _)).keep ((Fr.refl _).alloc _)
  have hb5:Blk (((w.alloc (.cells #[.int .i64 v.kd,.int .i64 v.nm,.string ⟨v.tx.toArray⟩,.slice B v.ls.length d,.slice B' v.ms.length d'] 25)).alloc (.cells #[.int .i64 x.kd,.int .i64 x.nm,.string ⟨x.tx.toArray⟩,.slice C x.ls.length f,.slice C' x.ms.length f'] 25)).alloc (.cells #[.int .i64 0,.int .i64 0,.string ⟨#[]⟩,.slice none 0 0,.slice none 0 0] 25)) (w.heap.size+1) #[.int .i64 x.kd,.int .i64 x.nm,.string ⟨x.tx.toArray⟩,.slice C x.ls.length f,.slice C' x.ms.length f'] 25:=(boxz (Blk.made (w.alloc _) _ _)).keep ((Fr.refl _).alloc _)
  have hb6:Blk (((w.alloc (.cells #[.int .i64 v.kd,.int .i64 v.nm,.string ⟨v.tx.toArray⟩,.slice B v.ls.length d,.slice B' v.ms.length d'] 25)).alloc (.cells #[.int .i64 x.kd,.int .i64 x.nm,.string ⟨x.tx.toArray⟩,.slice C x.ls.length f,.slice C' x.ms.length f'] 25)).alloc (.cells #[.int .i64 0,.int .i64 0,.string ⟨#[]⟩,.slice none 0 0,.slice none 0 0] 25)) (w.heap.size+1+1) #[.int .i64 0,.int .i64 0,.string ⟨#[]⟩,.slice none 0 0,.slice none 0 0] 25:=boxz2 (Blk.made ((w.alloc _).alloc _) _ _)
  have hf0:Fr w (((w.alloc (.cells #[.int .i64 v.kd,.int .i64 v.nm,.string ⟨v.tx.toArray⟩,.slice B v.ls.length d,.slice B' v.ms.length d'] 25)).alloc (.cells #[.int .i64 x.kd,.int .i64 x.nm,.string ⟨x.tx.toArray⟩,.slice C x.ls.length f,.slice C' x.ms.length f'] 25)).alloc (.cells #[.int .i64 0,.int .i64 0,.string ⟨#[]⟩,.slice none 0 0,.slice none 0 0] 25)):=(((Fr.refl w).alloc _).alloc _).alloc _
  generalize (((w.alloc (.cells #[.int .i64 v.kd,.int .i64 v.nm,.string ⟨v.tx.toArray⟩,.slice B v.ls.length d,.slice B' v.ms.length d'] 25)).alloc (.cells #[.int .i64 x.kd,.int .i64 x.nm,.string ⟨x.tx.toArray⟩,.slice C x.ls.length f,.slice C' x.ms.length f'] 25)).alloc (.cells #[.int .i64 0,.int .i64 0,.string ⟨#[]⟩,.slice none 0 0,.slice none 0 0] 25))=W0 at hb3 hb5 hb6 hf0 ⊢
  have HXX:Hid (w.heap.size≤w.heap.size+1+1∧w.heap.size+1+1<W0.heap.size∧w.heap.size≤w.heap.size+1+1):=Lib.hid ⟨by omega,hb6.lt,by omega⟩
  generalize w.heap.size+1+1=X6 at hb6 HXX ⊢
  generalize w.heap.size+1=X5 at hb5 ⊢
  obtain ⟨X3,hX3⟩:∃ X,w.heap.size=X:=⟨_,rfl⟩
  have HX3:=Lib.hid hX3
  rw [hX3] at hb3 ⊢
  clear hX3
  have HB3:=Lib.hid hb3
  have HB5:=Lib.hid hb5
  have HB6:=Lib.hid hb6
  have HF0:=Lib.hid hf0
  clear hb3 hb5 hb6 hf0
  have HWI:Hid (∀ W,Fr W0 W→Calls Tryz.prog 56 #[.agg #[.int .i64 v.kd,.int .i64 v.nm,.string ⟨v.tx.toArray⟩,.slice B v.ls.length d,.slice B' v.ms.length d'],.string ⟨s.toArray⟩,.agg #[.int .i64 x.kd,.int .i64 x.nm,.string ⟨x.tx.toArray⟩,.slice C x.ls.length f,.slice C' x.ms.length f']] W fun e w'=>(∃ (D:Option Addr) (g:Nat),e=.returned (.agg #[.int .i64 6,.int .i64 0,.string ⟨#[]⟩,.slice none 0 0,(.slice D l.length g)])∧InV w' (NeS O W w') (JV.mapV l) (.agg #[.int .i64 6,.int .i64 0,.string ⟨#[]⟩,.slice none 0 0,(.slice D l.length g)]))∧Fr W w'):=Lib.hid (fun W hW=>HWI0.out W (HF0.out.trans hW))
  have HS6:Hid (∀ W,Fr W0 W→W.cell? ⟨X3,0,none⟩=some (.int .i64 v.kd)∧W.cell? ⟨X3,1,none⟩=some (.int .i64 v.nm)∧W.cell? ⟨X3,2,none⟩=some (.string ⟨v.tx.toArray⟩)∧W.cell? ⟨X3,3,none⟩=some (.slice B v.ls.length d)∧W.cell? ⟨X3,4,none⟩=some (.slice B' v.ms.length d')∧W.cell? ⟨X5,0,none⟩=some (.int .i64 x.kd)∧W.cell? ⟨X5,1,none⟩=some (.int .i64 x.nm)∧W.cell? ⟨X5,2,none⟩=some (.string ⟨x.tx.toArray⟩)∧W.cell? ⟨X5,3,none⟩=some (.slice C x.ls.length f)∧W.cell? ⟨X5,4,none⟩=some (.slice C' x.ms.length f')∧W.cell? ⟨bP,oP,none⟩=some (.string ⟨s.toArray⟩)):=Lib.hid (fun W hW=>by
   have a:=HB3.out.keep hW
   have b:=HB5.out.keep hW
   exact ⟨a.cell 0,a.cell 1,a.cell 2,a.cell 3,a.cell 4,b.cell 0,b.cell 1,b.cell 2,b.cell 3,b.cell 4,HNM.out W (HF0.out.trans hW)⟩)
  obtain ⟨⟨y0,y1,y2,y3,y4⟩,_⟩:=box5 HB5.out
  go_upto_region 4 with fail
  refine OrdL.begin (x:=6) (fun W=>W.cell? ⟨X3,0,none⟩=some (.int .i64 v.kd)∧W.cell? ⟨X3,1,none⟩=some (.int .i64 v.nm)∧W.cell? ⟨X3,2,none⟩=some (.string ⟨v.tx.toArray⟩)∧W.cell? ⟨X3,3,none⟩=some (.slice B v.ls.length d)∧W.cell? ⟨X3,4,none⟩=some (.slice B' v.ms.length d')∧W.cell? ⟨X5,0,none⟩=some (.int .i64 x.kd)∧W.cell? ⟨X5,1,none⟩=some (.int .i64 x.nm)∧W.cell? ⟨X5,2,none⟩=some (.string ⟨x.tx.toArray⟩)∧W.cell? ⟨X5,3,none⟩=some (.slice C x.ls.length f)∧W.cell? ⟨X5,4,none⟩=some (.slice C' x.ms.length f')∧W.cell? ⟨bP,oP,none⟩=some (.string ⟨s.toArray⟩)) (by kernel_rfl) ?_ (fun hH=>?_)
  ·exact HS6.out _ (Fr.refl _).drew
  refine lq 0 [5] rfl hH ?_
  try simp only [Act.put,fl]
  refine lq 1 [2,3,5] rfl hH ?_
  try simp only [Act.put,fl]
  refine lq 2 [3,5] rfl hH ?_
  try simp only [Act.put,fl]
  refine lq 3 [5] rfl hH ?_
  try simp only [Act.put,fl]
  refine lq 4 [5] rfl hH ?_
  try simp only [Act.put,fl]
  refine OrdL.one (i:=5) rfl (by kernel_rfl) (by rfl) (fun K hK=>?_)
  (go_simp;go_at_call 56;refine (HWI.out _ (Fr.refl W0).drew).mono ?_;rintro e w5 ⟨⟨D,g,rfl,hi⟩,hf⟩;have HI5:=Lib.hid hi;have HF5:Hid (Fr W0 w5):=Lib.hid ((Fr.refl W0).drew.trans hf);clear hi hf)
  refine hK.out _ _ (HS6.out _ HF5.out) (fun hH3=>?_)
  clear hK K
  try simp only [Act.put,fl]
  have hb5:=HB6.out.keep HF5.out
  obtain ⟨⟨q0,q1,q2,q3,q4⟩,qf0,qf1,qf2,qf3,qf4⟩:=box5 hb5
  have HBQ:=Lib.hid hb5
  clear hb5
  refine OrdL.last rfl (by kernel_rfl) (by kernel_rfl) (fun K hK=>?_)
  go_simp
  refine hK.out _ _ ?_
  clear hK K
  try simp only [Act.put,fl]
  go_wp2_with fail
  refine bodyPost_ret (results_cv (by rfl) rfl _ X6 (by rfl) _ _ _ _ _ (set5 HBQ.out)) rfl ?_
  exact ⟨⟨D,g,rfl,HI5.out.put6 HZ.out ⟨HXX.out.1,HXX.out.2.1⟩ HF5.out.size HF0.out.size _ _ _ _ _⟩,st5_fr (HF0.out.trans HF5.out) HXX.out.1 _ _ _ _ _⟩
theorem rput_more (s t:List UInt8) (ps:List (List UInt8)) (ih:RPutAt (t::ps)):RPutAt (s::t::ps):=by
 intro v x B d B' d' C f C' f' A c w O hZ hv hx hp hc hc2 ht hl2 hn l hl
 obtain ⟨bP,oP,rfl,hbP,hcP⟩:=hp (by simp)
 have hcs:=hcP 0 (by simp)
 simp only [List.getElem_cons_zero,Nat.add_zero] at hcs
 obtain ⟨A',hcut,hps,hpc⟩:=psc_cut hp hc hc2
 have hs:=ht s (by simp)
 have hkv:∀ W,Fr w W→InV W O v (vA v B d B' d'):=fun W hW=>hv.keepS hZ hW
 have hkx:∀ W,Fr w W→InV W O x (vA x C f C' f'):=fun W hW=>hx.keepS hZ hW
 obtain ⟨r,hr⟩:∃ r,(Pt.get v s).getD JV.zeroV=r:=⟨_,rfl⟩
 have hrn:Rd.nv r≤1048576:=by
  rw [← hr]
  cases hg:Pt.get v s with
  | none=>decide
  | some y=>have:=Pt.nvM_mem (Bk.get_mem hg).2;have:=Pt.nv_eq v;show Rd.nv y≤_;have h3:Rd.nv y≤Rd.nvM v.ms:=Pt.nvM_mem (Bk.get_mem hg).2;omega
 obtain ⟨li,hli⟩:=Pc.put_map r x (t::ps) (by simp)
 have hlw:Pt.withM (Pc.mems v) s (JV.mapV li)=l:=by
  have:JV.mapV (Pt.withM (Pc.mems v) s (Pc.put ((Pt.get v s).getD JV.zeroV) (t::ps) x))=JV.mapV l:=hl
  rw [hr,hli] at this
  injection this
 have hgt:∀ W,Fr w W→Calls Tryz.prog 38 #[.agg #[.int .i64 v.kd,.int .i64 v.nm,.string ⟨v.tx.toArray⟩,.slice B v.ls.length d,.slice B' v.ms.length d'],.string ⟨s.toArray⟩] W fun e w'=>∃ (E:Option Addr) (e1:Nat) (E':Option Addr) (e1':Nat),(∃ bb,e=.returned (.tuple #[.agg #[.int .i64 r.kd,.int .i64 r.nm,.string ⟨r.tx.toArray⟩,.slice E r.ls.length e1,.slice E' r.ms.length e1'],.bool bb]))∧InV w' O r (vA r E e1 E' e1')∧Fr W w':=fun W hW=>by
  have h:=get7S_is v B d B' d' s W O (ltS hZ hW) (hkv W hW)
  subst hr
  cases hg:Pt.get v s with
  | none=>rw [hg] at h;exact h.mono (fun e w' k=>⟨none,0,none,0,⟨_,k.1⟩,zeroV_in _ _,k.2⟩)
  | some y=>rw [hg] at h;exact h.mono (fun e w' ⟨E,e1,E',e1',k1,k2,k3⟩=>⟨E,e1,E',e1',⟨_,k1⟩,k2,k3⟩)
 have hpu:=fun W (hW:Fr w W) E e E' e' (hi:InV W O r (vA r E e E' e'))=>ih r x E e E' e' C f C' f' A' (c - 1) W O (ltS hZ hW) hi (hkx W hW) (hps W hW) hpc (by omega) (fun q hq=>ht q (List.mem_cons_of_mem _ hq)) (by simp only [List.length_cons] at hl2 ⊢;omega) hrn li hli
 obtain ⟨tl,htl⟩:∃ tl,t::ps=tl:=⟨_,rfl⟩
 have htl0:0<tl.length:=by rw [← htl];simp
 rw [htl] at hcut hps hpc hpu
 have hc3:tl.length+1≤c:=by rw [← htl];exact hc
 have htl2:tl.length+1≤1048577:=by rw [← htl];exact hl2
 have hlen:(1:Int)<(tl.length:Int)+1:=by omega
 have hlen0:(0:Int)<(tl.length:Int)+1:=by omega
 have hlen1:((tl.length:Int)+1 == 1)=false:=by rw [beq_eq_false_iff_ne];omega
 have HZ:=Lib.hid hZ
 have HNM:Hid (∀ W,Fr w W→W.cell? ⟨bP,oP,none⟩=some (.string ⟨s.toArray⟩)):=Lib.hid (fun W hW=>(hW.cell hbP).trans hcs)
 have HKV:=Lib.hid hkv
 have HGT0:=Lib.hid hgt
 have HPU0:=Lib.hid hpu
 have HWI0:Hid (∀ (W:World) (S:Nat→Prop),(∀ b,S b→b<W.heap.size)→InV W S v (vA v B d B' d') → ∀ D8 g8,InV W S (JV.mapV li) (.agg #[.int .i64 6,.int .i64 0,.string ⟨#[]⟩,.slice none 0 0,(.slice D8 li.length g8)])→Calls Tryz.prog 56 #[.agg #[.int .i64 v.kd,.int .i64 v.nm,.string ⟨v.tx.toArray⟩,.slice B v.ls.length d,.slice B' v.ms.length d'],.string ⟨s.toArray⟩,.agg #[.int .i64 6,.int .i64 0,.string ⟨#[]⟩,.slice none 0 0,(.slice D8 li.length g8)]] W fun e w'=>(∃ (D:Option Addr) (g:Nat),e=.returned (.agg #[.int .i64 6,.int .i64 0,.string ⟨#[]⟩,.slice none 0 0,(.slice D l.length g)])∧InV w' (NeS S W w') (JV.mapV l) (.agg #[.int .i64 6,.int .i64 0,.string ⟨#[]⟩,.slice none 0 0,(.slice D l.length g)]))∧Fr W w'):=Lib.hid (fun W S hS hv D8 g8 hi=>rpwith_is v (JV.mapV li) B d B' d' none 0 D8 g8 s W S hS hv hi hn hs l hlw)
 have hgoal:(s::t::ps).length=tl.length+1:=by rw [← htl];rfl
 rw [hgoal]
 clear hv hx hp hcP hcs hkv hkx hl hlw ht hn hbP hgt hpu hr hli hrn hps hc hl2 htl hgoal ih hs
 go_enter Tryz.func30,Tryz.ntmps30
 go_upto_region 1 with fail
 have hb3:Blk (((w.alloc (.cells #[.int .i64 v.kd,.int .i64 v.nm,.string ⟨v.tx.toArray⟩,.slice B v.ls.length d,.slice B' v.ms.length d'] 25)).alloc (.cells #[.int .i64 x.kd,.int .i64 x.nm,.string ⟨x.tx.toArray⟩,.slice C x.ls.length f,.slice C' x.ms.length f'] 25)).alloc (.cells #[.int .i64 0,.int .i64 0,.string ⟨#[]⟩,.slice none 0 0,.slice none 0 0] 25)) w.heap.size #[.int .i64 v.kd,.int .i64 v.nm,.string ⟨v.tx.toArray⟩,.slice B v.ls.length d,.slice B' v.ms.length d'] 25:=((Blk.made w _ _).keep ((Fr.refl _).alloc _)).keep ((Fr.refl _).alloc _)
 have hb5:Blk (((w.alloc (.cells #[.int .i64 v.kd,.int .i64 v.nm,.string ⟨v.tx.toArray⟩,.slice B v.ls.length d,.slice B' v.ms.length d'] 25)).alloc (.cells #[.int .i64 x.kd,.int .i64 x.nm,.string ⟨x.tx.toArray⟩,.slice C x.ls.length f,.slice C' x.ms.length f'] 25)).alloc (.cells #[.int .i64 0,.int .i64 0,.string ⟨#[]⟩,.slice none 0 0,.slice none 0 0] 25)) (w.heap.size+1) #[.int .i64 x.kd,.int .i64 x.nm,.string ⟨x.tx.toArray⟩,.slice C x.ls.length f,.slice C' x.ms.length f'] 25:=(boxz (Blk.made (w.alloc _) _ _)).keep ((Fr.refl _).alloc _)
 have hb6:Blk (((w.alloc (.cells #[.int .i64 v.kd,.int .i64 v.nm,.string ⟨v.tx.toArray⟩,.slice B v.ls.length d,.slice B' v.ms.length d'] 25)).alloc (.cells #[.int .i64 x.kd,.int .i64 x.nm,.string ⟨x.tx.toArray⟩,.slice C x.ls.length f,.slice C' x.ms.length f'] 25)).alloc (.cells #[.int .i64 0,.int .i64 0,.string ⟨#[]⟩,.slice none 0 0,.slice none 0 0] 25)) (w.heap.size+1+1) #[.int .i64 0,.int .i64 0,.string ⟨#[]⟩,.slice none 0 0,.slice none 0 0] 25:=boxz2 (Blk.made ((w.alloc _).alloc _) _ _)
 have hf0:Fr w (((w.alloc (.cells #[.int .i64 v.kd,.int .i64 v.nm,.string ⟨v.tx.toArray⟩,.slice B v.ls.length d,.slice B' v.ms.length d'] 25)).alloc (.cells #[.int .i64 x.kd,.int .i64 x.nm,.string ⟨x.tx.toArray⟩,.slice C x.ls.length f,.slice C' x.ms.length f'] 25)).alloc (.cells #[.int .i64 0,.int .i64 0,.string ⟨#[]⟩,.slice none 0 0,.slice none 0 0] 25)):=(((Fr.refl w).alloc _).alloc _).alloc _
 generalize (((w.alloc (.cells #[.int .i64 v.kd,.int .i64 v.nm,.string ⟨v.tx.toArray⟩,.slice B v.ls.length d,.slice B' v.ms.length d'] 25)).alloc (.cells #[.int .i64 x.kd,.int .i64 x.nm,.string ⟨x.tx.toArray⟩,.slice C x.ls.length f,.slice C' x.ms.length f'] 25)).alloc (.cells #[.int .i64 0,.int .i64 0,.string ⟨#[]⟩,.slice none 0 0,.slice none 0 0] 25))=W0 at hb3 hb5 hb6 hf0 ⊢
 have HXX:Hid (w.heap.size≤w.heap.size+1+1∧w.heap.size+1+1<W0.heap.size∧w.heap.size≤w.heap.size+1+1):=Lib.hid ⟨by omega,hb6.lt,by omega⟩
 generalize w.heap.size+1+1=X6 at hb6 HXX ⊢
 generalize w.heap.size+1=X5 at hb5 ⊢
 obtain ⟨X3,hX3⟩:∃ X,w.heap.size=X:=⟨_,rfl⟩
 have HX3:=Lib.hid hX3
 rw [hX3] at hb3 ⊢
 clear hX3
 have HB3:=Lib.hid hb3
 have HB5:=Lib.hid hb5
 have HB6:=Lib.hid hb6
 have HF0:=Lib.hid hf0
 clear hb3 hb5 hb6 hf0
 have HZ0:Hid (∀ b,O b→b<W0.heap.size):=Lib.hid (ltS HZ.out HF0.out)
 have HWZ:Hid (∀ W,Fr W0 W → ∀ b,O b→b<W.heap.size):=Lib.hid (fun W hW=>ltS HZ0.out hW)
 have HS2:Hid (∀ W,Fr W0 W→W.cell? ⟨X3,0,none⟩=some (.int .i64 v.kd)∧W.cell? ⟨X3,1,none⟩=some (.int .i64 v.nm)∧W.cell? ⟨X3,2,none⟩=some (.string ⟨v.tx.toArray⟩)∧W.cell? ⟨X3,3,none⟩=some (.slice B v.ls.length d)∧W.cell? ⟨X3,4,none⟩=some (.slice B' v.ms.length d')∧W.cell? ⟨bP,oP,none⟩=some (.string ⟨s.toArray⟩)):=Lib.hid (fun W hW=>by
  have a:=HB3.out.keep hW
  exact ⟨a.cell 0,a.cell 1,a.cell 2,a.cell 3,a.cell 4,HNM.out W (HF0.out.trans hW)⟩)
 have HGT:Hid (∀ W,Fr W0 W→Calls Tryz.prog 38 #[.agg #[.int .i64 v.kd,.int .i64 v.nm,.string ⟨v.tx.toArray⟩,.slice B v.ls.length d,.slice B' v.ms.length d'],.string ⟨s.toArray⟩] W fun e w'=>∃ (E:Option Addr) (e1:Nat) (E':Option Addr) (e1':Nat),(∃ bb,e=.returned (.tuple #[.agg #[.int .i64 r.kd,.int .i64 r.nm,.string ⟨r.tx.toArray⟩,.slice E r.ls.length e1,.slice E' r.ms.length e1'],.bool bb]))∧InV w' O r (vA r E e1 E' e1')∧Fr W w'):=Lib.hid (fun W hW=>HGT0.out W (HF0.out.trans hW))
 go_upto_region 5 with fail
 go_cut [7] from 32 to 39 (fun q wx=>∃ (X7:Nat) (E:Option Addr) (e:Nat) (E':Option Addr) (e':Nat),q=.pointer (some ⟨X7,0,none⟩)∧Hid (W0.heap.size≤X7)∧Hid (Blk wx X7 #[.int .i64 r.kd,.int .i64 r.nm,.string ⟨r.tx.toArray⟩,.slice E r.ls.length e,.slice E' r.ms.length e'] 25)∧Hid (InV wx O r (vA r E e E' e'))∧Hid (Fr W0 wx))
 case first=>
  refine wp_region_held_drew (S:=(fun W=>W.cell? ⟨X3,0,none⟩=some (.int .i64 v.kd)∧W.cell? ⟨X3,1,none⟩=some (.int .i64 v.nm)∧W.cell? ⟨X3,2,none⟩=some (.string ⟨v.tx.toArray⟩)∧W.cell? ⟨X3,3,none⟩=some (.slice B v.ls.length d)∧W.cell? ⟨X3,4,none⟩=some (.slice B' v.ms.length d')∧W.cell? ⟨bP,oP,none⟩=some (.string ⟨s.toArray⟩))) (by kernel_rfl) ?_ (fun hHeld=>?_)
  ·exact HS2.out _ (Fr.refl _).drew
  refine tk (i:=0) (v:=?_) rfl ⟨by rfl,?_⟩ hHeld ?_
  rotate_left
  ·(intro w' hSw;(try dsimp only at hSw);go_simp;try with_reducible rfl)
  try simp only [Act.put,fl]
  refine tk (i:=1) (v:=?_) rfl ⟨by rfl,?_⟩ hHeld ?_
  rotate_left
  ·(intro w' hSw;(try dsimp only at hSw);go_simp;try with_reducible rfl)
  try simp only [Act.put,fl]
  refine tk (i:=2) (v:=?_) rfl ⟨by rfl,?_⟩ hHeld ?_
  rotate_left
  ·(intro w' hSw;(try dsimp only at hSw);go_simp;try with_reducible rfl)
  try simp only [Act.put,fl]
  refine tk (i:=3) (v:=?_) rfl ⟨by rfl,?_⟩ hHeld ?_
  rotate_left
  ·(intro w' hSw;(try dsimp only at hSw);go_simp;try with_reducible rfl)
  try simp only [Act.put,fl]
  refine wpAnyH_ready (rs:=[4,8]) (by kernel_rfl) (by simp) ?_
  refine AllReadyH.cons rfl (fun K hK=>?_) (AllReadyH.cons rfl (fun K hK=>?_) AllReadyH.nil)
  ·go_simp
   (go_at_call 38;refine (HGT.out _ (Fr.refl W0).drew).mono ?_;rintro en w1 ⟨E,e,E',e',⟨bb,rfl⟩,hi,hf⟩;have HI:=Lib.hid hi;clear hi;have HF1:Hid (Fr W0 w1):=Lib.hid ((Fr.refl W0).drew.trans hf);clear hf)
   refine hK.out _ _ (HS2.out _ HF1.out) (fun hH2=>?_)
   clear hK K
   try simp only [Act.put,fl]
   refine tk (i:=5) (v:=?_) rfl ⟨by rfl,?_⟩ hH2 ?_
   rotate_left
   ·(intro w' hSw;(try dsimp only at hSw);go_simp;try with_reducible rfl)
   try simp only [Act.put,fl]
   refine tk (i:=6) (v:=?_) rfl ⟨by rfl,?_⟩ hH2 ?_
   rotate_left
   ·(intro w' hSw;(try dsimp only at hSw);go_simp;try with_reducible rfl)
   try simp only [Act.put,fl]
   refine tk (i:=7) (v:=?_) rfl ⟨by rfl,?_⟩ hH2 ?_
   rotate_left
   ·(intro w' hSw;(try dsimp only at hSw);go_simp;try with_reducible rfl)
   try simp only [Act.put,fl]
   refine wpAnyH_ready (rs:=[8]) (by kernel_rfl) (by simp) ?_
   refine AllReadyH.cons rfl (fun K hK=>?_) AllReadyH.nil
   go_simp
   refine hK.out _ _ (HS2.out _ (HF1.out.alloc _)) (fun hH3=>?_)
   clear hK K
   try simp only [Act.put,fl]
   have HB7:Hid (Blk (w1.alloc (.cells #[.int .i64 0,.int .i64 0,.string ⟨#[]⟩,.slice none 0 0,.slice none 0 0] 25)) w1.heap.size #[.int .i64 0,.int .i64 0,.string ⟨#[]⟩,.slice none 0 0,.slice none 0 0] 25):=Lib.hid (Blk.made w1 _ _)
   have HF7:Hid (Fr W0 (w1.alloc (.cells #[.int .i64 0,.int .i64 0,.string ⟨#[]⟩,.slice none 0 0,.slice none 0 0] 25))):=Lib.hid (HF1.out.alloc _)
   have HX7:Hid (W0.heap.size≤w1.heap.size):=Lib.hid HF1.out.size
   have HH7:Hid (Fr w1 (w1.alloc (.cells #[.int .i64 0,.int .i64 0,.string ⟨#[]⟩,.slice none 0 0,.slice none 0 0] 25))):=Lib.hid ((Fr.refl w1).alloc _)
   generalize (w1.alloc (.cells #[.int .i64 0,.int .i64 0,.string ⟨#[]⟩,.slice none 0 0,.slice none 0 0] 25))=W7 at HB7 HF7 HH7 ⊢
   generalize w1.heap.size=X7 at HB7 HX7 ⊢
   obtain ⟨⟨z0,z1,z2,z3,z4⟩,zf0,zf1,zf2,zf3,zf4⟩:=box5 HB7.out
   refine wpAnyH_ready (rs:=[9]) (by kernel_rfl) (by simp) ?_
   refine AllReadyH.cons rfl (fun K hK=>?_) AllReadyH.nil
   go_simp
   refine hK.out _ _ (HS2.out _ (st5_fr HF7.out HX7.out _ _ _ _ _)) (fun hH5=>?_)
   clear hK K
   try simp only [Act.put,fl]
   refine tk (i:=10) (v:=?_) rfl ⟨by rfl,?_⟩ hH5 ?_
   rotate_left
   ·(intro w' hSw;(try dsimp only at hSw);go_simp;try with_reducible rfl)
   try simp only [Act.put,fl]
   refine wpAnyH_done (by kernel_rfl) ?_ _
   have hb9:Blk (((((W7.setCell ⟨X7,0,none⟩ (.int .i64 r.kd)).setCell ⟨X7,1,none⟩ (.int .i64 r.nm)).setCell ⟨X7,2,none⟩ (.string ⟨r.tx.toArray⟩)).setCell ⟨X7,3,none⟩ (.slice E r.ls.length e)).setCell ⟨X7,4,none⟩ (.slice E' r.ms.length e')) X7 #[.int .i64 r.kd,.int .i64 r.nm,.string ⟨r.tx.toArray⟩,.slice E r.ls.length e,.slice E' r.ms.length e'] 25:=set5 HB7.out
   have hf9:Fr W0 (((((W7.setCell ⟨X7,0,none⟩ (.int .i64 r.kd)).setCell ⟨X7,1,none⟩ (.int .i64 r.nm)).setCell ⟨X7,2,none⟩ (.string ⟨r.tx.toArray⟩)).setCell ⟨X7,3,none⟩ (.slice E r.ls.length e)).setCell ⟨X7,4,none⟩ (.slice E' r.ms.length e')):=st5_fr HF7.out HX7.out _ _ _ _ _
   have hi9:InV (((((W7.setCell ⟨X7,0,none⟩ (.int .i64 r.kd)).setCell ⟨X7,1,none⟩ (.int .i64 r.nm)).setCell ⟨X7,2,none⟩ (.string ⟨r.tx.toArray⟩)).setCell ⟨X7,3,none⟩ (.slice E r.ls.length e)).setCell ⟨X7,4,none⟩ (.slice E' r.ms.length e')) O r (vA r E e E' e'):=((HI.out.keepS (HWZ.out _ HF1.out) HH7.out).map (fun b hb=>hb) (fun b o hb=>(st5_frx W7 X7 _ _ _ _ _).cell (HWZ.out _ HF7.out b hb) (by have:=HZ0.out b hb;have:=HX7.out;omega)))
   clear z0 z1 z2 z3 z4 zf0 zf1 zf2 zf3 zf4
   generalize (((((W7.setCell ⟨X7,0,none⟩ (.int .i64 r.kd)).setCell ⟨X7,1,none⟩ (.int .i64 r.nm)).setCell ⟨X7,2,none⟩ (.string ⟨r.tx.toArray⟩)).setCell ⟨X7,3,none⟩ (.slice E r.ls.length e)).setCell ⟨X7,4,none⟩ (.slice E' r.ms.length e'))=W9 at hb9 hf9 hi9 ⊢
   have HB9:=Lib.hid hb9
   have HF9:=Lib.hid hf9
   have HI9:=Lib.hid hi9
   clear hb9 hf9 hi9
   repeat (first | go_skip | go_step)
   go_meet
   exact ⟨X7,E,e,E',e',rfl,HX7,HB9,HI9,HF9⟩
  ·go_simp
   refine hK.out _ _ (HS2.out _ ((Fr.refl W0).drew.alloc _)) (fun hH2=>?_)
   clear hK K
   try simp only [Act.put,fl]
   refine wpAnyH_ready (rs:=[4]) (by kernel_rfl) (by simp) ?_
   refine AllReadyH.cons rfl (fun K hK=>?_) AllReadyH.nil
   go_simp
   (go_at_call 38;refine (HGT.out _ ((Fr.refl W0).drew.alloc _)).mono ?_;rintro en w1 ⟨E,e,E',e',⟨bb,rfl⟩,hi,hf⟩;have HI:=Lib.hid hi;clear hi;have HF7:Hid (Fr W0 w1):=Lib.hid (((Fr.refl W0).drew.alloc _).trans hf);have HB7:Hid (Blk w1 W0.heap.size #[.int .i64 0,.int .i64 0,.string ⟨#[]⟩,.slice none 0 0,.slice none 0 0] 25):=Lib.hid ((Blk.made W0.drew _ _).keep hf);have HX7:Hid (W0.heap.size≤W0.heap.size):=Lib.hid (Nat.le_refl _);have HH7:Hid (Fr w1 w1):=Lib.hid (Fr.refl w1);clear hf)
   refine hK.out _ _ (HS2.out _ HF7.out) (fun hH3=>?_)
   clear hK K
   try simp only [Act.put,fl]
   refine tk (i:=5) (v:=?_) rfl ⟨by rfl,?_⟩ hH3 ?_
   rotate_left
   ·(intro w' hSw;(try dsimp only at hSw);go_simp;try with_reducible rfl)
   try simp only [Act.put,fl]
   refine tk (i:=6) (v:=?_) rfl ⟨by rfl,?_⟩ hH3 ?_
   rotate_left
   ·(intro w' hSw;(try dsimp only at hSw);go_simp;try with_reducible rfl)
   try simp only [Act.put,fl]
   refine tk (i:=7) (v:=?_) rfl ⟨by rfl,?_⟩ hH3 ?_
   rotate_left
   ·(intro w' hSw;(try dsimp only at hSw);go_simp;try with_reducible rfl)
   try simp only [Act.put,fl]
   obtain ⟨⟨z0,z1,z2,z3,z4⟩,zf0,zf1,zf2,zf3,zf4⟩:=box5 HB7.out
   refine wpAnyH_ready (rs:=[9]) (by kernel_rfl) (by simp) ?_
   refine AllReadyH.cons rfl (fun K hK=>?_) AllReadyH.nil
   go_simp
   refine hK.out _ _ (HS2.out _ (st5_fr HF7.out HX7.out _ _ _ _ _)) (fun hH5=>?_)
   clear hK K
   try simp only [Act.put,fl]
   refine tk (i:=10) (v:=?_) rfl ⟨by rfl,?_⟩ hH5 ?_
   rotate_left
   ·(intro w' hSw;(try dsimp only at hSw);go_simp;try with_reducible rfl)
   try simp only [Act.put,fl]
   refine wpAnyH_done (by kernel_rfl) ?_ _
   have hb9:Blk (((((w1.setCell ⟨W0.heap.size,0,none⟩ (.int .i64 r.kd)).setCell ⟨W0.heap.size,1,none⟩ (.int .i64 r.nm)).setCell ⟨W0.heap.size,2,none⟩ (.string ⟨r.tx.toArray⟩)).setCell ⟨W0.heap.size,3,none⟩ (.slice E r.ls.length e)).setCell ⟨W0.heap.size,4,none⟩ (.slice E' r.ms.length e')) W0.heap.size #[.int .i64 r.kd,.int .i64 r.nm,.string ⟨r.tx.toArray⟩,.slice E r.ls.length e,.slice E' r.ms.length e'] 25:=set5 HB7.out
   have hf9:Fr W0 (((((w1.setCell ⟨W0.heap.size,0,none⟩ (.int .i64 r.kd)).setCell ⟨W0.heap.size,1,none⟩ (.int .i64 r.nm)).setCell ⟨W0.heap.size,2,none⟩ (.string ⟨r.tx.toArray⟩)).setCell ⟨W0.heap.size,3,none⟩ (.slice E r.ls.length e)).setCell ⟨W0.heap.size,4,none⟩ (.slice E' r.ms.length e')):=st5_fr HF7.out HX7.out _ _ _ _ _
   have hi9:InV (((((w1.setCell ⟨W0.heap.size,0,none⟩ (.int .i64 r.kd)).setCell ⟨W0.heap.size,1,none⟩ (.int .i64 r.nm)).setCell ⟨W0.heap.size,2,none⟩ (.string ⟨r.tx.toArray⟩)).setCell ⟨W0.heap.size,3,none⟩ (.slice E r.ls.length e)).setCell ⟨W0.heap.size,4,none⟩ (.slice E' r.ms.length e')) O r (vA r E e E' e'):=((HI.out.keepS (HWZ.out _ HF7.out) HH7.out).map (fun b hb=>hb) (fun b o hb=>(st5_frx w1 W0.heap.size _ _ _ _ _).cell (HWZ.out _ HF7.out b hb) (by have:=HZ0.out b hb;have:=HX7.out;omega)))
   clear z0 z1 z2 z3 z4 zf0 zf1 zf2 zf3 zf4
   generalize (((((w1.setCell ⟨W0.heap.size,0,none⟩ (.int .i64 r.kd)).setCell ⟨W0.heap.size,1,none⟩ (.int .i64 r.nm)).setCell ⟨W0.heap.size,2,none⟩ (.string ⟨r.tx.toArray⟩)).setCell ⟨W0.heap.size,3,none⟩ (.slice E r.ls.length e)).setCell ⟨W0.heap.size,4,none⟩ (.slice E' r.ms.length e'))=W9 at hb9 hf9 hi9 ⊢
   have HB9:=Lib.hid hb9
   have HF9:=Lib.hid hf9
   have HI9:=Lib.hid hi9
   clear hb9 hf9 hi9
   repeat (first | go_skip | go_step)
   go_meet
   exact ⟨W0.heap.size,E,e,E',e',rfl,HX7,HB9,HI9,HF9⟩
 obtain ⟨X7,E,e,E',e',rfl,HX7,HB7,HI7,HF07⟩:=hcut
 obtain ⟨W7,hW7⟩:∃ W,W=wc:=⟨wc,rfl⟩
 subst hW7
 have HPU:Hid (∀ W,Fr W7 W→Calls Tryz.prog 30 #[.agg #[.int .i64 r.kd,.int .i64 r.nm,.string ⟨r.tx.toArray⟩,.slice E r.ls.length e,.slice E' r.ms.length e'],.slice A' tl.length (c - 1),.agg #[.int .i64 x.kd,.int .i64 x.nm,.string ⟨x.tx.toArray⟩,.slice C x.ls.length f,.slice C' x.ms.length f']] W fun en w'=>(∃ (D:Option Addr) (g:Nat),en=.returned (.agg #[.int .i64 6,.int .i64 0,.string ⟨#[]⟩,.slice none 0 0,(.slice D li.length g)])∧InV w' (NeS O W w') (JV.mapV li) (.agg #[.int .i64 6,.int .i64 0,.string ⟨#[]⟩,.slice none 0 0,(.slice D li.length g)]))∧Fr W w'):=Lib.hid (fun W hW=>HPU0.out W ((HF0.out.trans HF07.out).trans hW) E e E' e' (HI7.out.keepS (HWZ.out _ HF07.out) hW))
 have HWI:Hid (∀ (w8:World) D8 g8 (_:True),Fr W7 w8→InV w8 (NeS O W7 w8) (JV.mapV li) (.agg #[.int .i64 6,.int .i64 0,.string ⟨#[]⟩,.slice none 0 0,(.slice D8 li.length g8)])→Calls Tryz.prog 56 #[.agg #[.int .i64 v.kd,.int .i64 v.nm,.string ⟨v.tx.toArray⟩,.slice B v.ls.length d,.slice B' v.ms.length d'],.string ⟨s.toArray⟩,.agg #[.int .i64 6,.int .i64 0,.string ⟨#[]⟩,.slice none 0 0,(.slice D8 li.length g8)]] w8 fun en w'=>(∃ (D:Option Addr) (g:Nat),en=.returned (.agg #[.int .i64 6,.int .i64 0,.string ⟨#[]⟩,.slice none 0 0,(.slice D l.length g)])∧InV w' (NeS (NeS O W7 w8) w8 w') (JV.mapV l) (.agg #[.int .i64 6,.int .i64 0,.string ⟨#[]⟩,.slice none 0 0,(.slice D l.length g)]))∧Fr w8 w'):=Lib.hid (fun w8 D8 g8 _ hW hi=>HWI0.out w8 _ (fun b hb=>by
  rcases hb with hb | hb
  ·exact HWZ.out _ (HF07.out.trans hW) b hb
  ·exact hb.2) ((HKV.out w8 ((HF0.out.trans HF07.out).trans hW)).more (fun b hb=>.inl hb)) D8 g8 hi)
 have HS3:Hid (∀ W,Fr W7 W→W.cell? ⟨X3,0,none⟩=some (.int .i64 v.kd)∧W.cell? ⟨X3,1,none⟩=some (.int .i64 v.nm)∧W.cell? ⟨X3,2,none⟩=some (.string ⟨v.tx.toArray⟩)∧W.cell? ⟨X3,3,none⟩=some (.slice B v.ls.length d)∧W.cell? ⟨X3,4,none⟩=some (.slice B' v.ms.length d')∧W.cell? ⟨X5,0,none⟩=some (.int .i64 x.kd)∧W.cell? ⟨X5,1,none⟩=some (.int .i64 x.nm)∧W.cell? ⟨X5,2,none⟩=some (.string ⟨x.tx.toArray⟩)∧W.cell? ⟨X5,3,none⟩=some (.slice C x.ls.length f)∧W.cell? ⟨X5,4,none⟩=some (.slice C' x.ms.length f')∧W.cell? ⟨X7,0,none⟩=some (.int .i64 r.kd)∧W.cell? ⟨X7,1,none⟩=some (.int .i64 r.nm)∧W.cell? ⟨X7,2,none⟩=some (.string ⟨r.tx.toArray⟩)∧W.cell? ⟨X7,3,none⟩=some (.slice E r.ls.length e)∧W.cell? ⟨X7,4,none⟩=some (.slice E' r.ms.length e')∧W.cell? ⟨bP,oP,none⟩=some (.string ⟨s.toArray⟩)):=Lib.hid (fun W hW=>by
  have a:=HB3.out.keep (HF07.out.trans hW)
  have b:=HB5.out.keep (HF07.out.trans hW)
  have q:=HB7.out.keep hW
  exact ⟨a.cell 0,a.cell 1,a.cell 2,a.cell 3,a.cell 4,b.cell 0,b.cell 1,b.cell 2,b.cell 3,b.cell 4,q.cell 0,q.cell 1,q.cell 2,q.cell 3,q.cell 4,HNM.out W ((HF0.out.trans HF07.out).trans hW)⟩)
 go_upto_region 6 with fail
 refine OrdL.begin (x:=10) (fun W=>W.cell? ⟨X3,0,none⟩=some (.int .i64 v.kd)∧W.cell? ⟨X3,1,none⟩=some (.int .i64 v.nm)∧W.cell? ⟨X3,2,none⟩=some (.string ⟨v.tx.toArray⟩)∧W.cell? ⟨X3,3,none⟩=some (.slice B v.ls.length d)∧W.cell? ⟨X3,4,none⟩=some (.slice B' v.ms.length d')∧W.cell? ⟨X5,0,none⟩=some (.int .i64 x.kd)∧W.cell? ⟨X5,1,none⟩=some (.int .i64 x.nm)∧W.cell? ⟨X5,2,none⟩=some (.string ⟨x.tx.toArray⟩)∧W.cell? ⟨X5,3,none⟩=some (.slice C x.ls.length f)∧W.cell? ⟨X5,4,none⟩=some (.slice C' x.ms.length f')∧W.cell? ⟨X7,0,none⟩=some (.int .i64 r.kd)∧W.cell? ⟨X7,1,none⟩=some (.int .i64 r.nm)∧W.cell? ⟨X7,2,none⟩=some (.string ⟨r.tx.toArray⟩)∧W.cell? ⟨X7,3,none⟩=some (.slice E r.ls.length e)∧W.cell? ⟨X7,4,none⟩=some (.slice E' r.ms.length e')∧W.cell? ⟨bP,oP,none⟩=some (.string ⟨s.toArray⟩)) (by kernel_rfl) ?_ (fun hH=>?_)
 ·exact HS3.out _ (Fr.refl _).drew
 refine lq 0 [9] rfl hH ?_
 try simp only [Act.put,fl]
 refine lq 1 [2,3,9] rfl hH ?_
 try simp only [Act.put,fl]
 refine lq 2 [3,9] rfl hH ?_
 try simp only [Act.put,fl]
 refine lq 3 [9] rfl hH ?_
 try simp only [Act.put,fl]
 refine lq 4 [8,9] rfl hH ?_
 try simp only [Act.put,fl]
 refine lq 5 [6,8,9] rfl hH ?_
 try simp only [Act.put,fl]
 refine lq 6 [8,9] rfl hH ?_
 try simp only [Act.put,fl]
 refine lq 7 [8,9] rfl hH ?_
 try simp only [Act.put,fl]
 refine OrdL.one (i:=8) rfl (by kernel_rfl) (by rfl) (fun K hK=>?_)
 (go_simp;go_at_call 30;refine (HPU.out _ (Fr.refl W7).drew).mono ?_;rintro e w8 ⟨⟨D8,g8,rfl,hi⟩,hf⟩;have HI8:Hid (InV w8 (NeS O W7 w8) (JV.mapV li) (.agg #[.int .i64 6,.int .i64 0,.string ⟨#[]⟩,.slice none 0 0,(.slice D8 li.length g8)])):=Lib.hid hi;have HF8:Hid (Fr W7 w8):=Lib.hid ((Fr.refl W7).drew.trans hf);clear hi hf)
 refine hK.out _ _ (HS3.out _ HF8.out) (fun hH3=>?_)
 clear hK K
 try simp only [Act.put,fl]
 refine OrdL.one (i:=9) rfl (by kernel_rfl) (by rfl) (fun K hK=>?_)
 (go_simp;go_at_call 56;refine (HWI.out _ _ _ trivial HF8.out HI8.out).mono ?_;rintro e w9 ⟨⟨D,g,rfl,hi⟩,hf⟩;have HI5:=Lib.hid hi;have HF9:Hid (Fr w8 w9):=Lib.hid hf;have HF5:Hid (Fr W7 w9):=Lib.hid (HF8.out.trans hf);clear hi hf)
 refine hK.out _ _ (HS3.out _ HF5.out) (fun hH4=>?_)
 clear hK K
 try simp only [Act.put,fl]
 have hb5:=HB6.out.keep (HF07.out.trans HF5.out)
 obtain ⟨⟨q0,q1,q2,q3,q4⟩,qf0,qf1,qf2,qf3,qf4⟩:=box5 hb5
 have HBQ:=Lib.hid hb5
 clear hb5
 refine OrdL.last rfl (by kernel_rfl) (by kernel_rfl) (fun K hK=>?_)
 go_simp
 refine hK.out _ _ ?_
 clear hK K
 try simp only [Act.put,fl]
 go_wp2_with fail
 refine bodyPost_ret (results_cv (by rfl) rfl _ X6 (by rfl) _ _ _ _ _ (set5 HBQ.out)) rfl ?_
 have h59:InV w9 (NeS O W7 w9) (JV.mapV l) (.agg #[.int .i64 6,.int .i64 0,.string ⟨#[]⟩,.slice none 0 0,(.slice D l.length g)]):=HI5.out.more (fun b hb=>by
  rcases hb with hb | hb
  ·rcases hb with hb | hb
   ·exact .inl hb
   ·exact .inr ⟨hb.1,Nat.lt_of_lt_of_le hb.2 HF9.out.size⟩
  ·exact .inr ⟨Nat.le_trans HF8.out.size hb.1,hb.2⟩)
 exact ⟨⟨D,g,rfl,h59.put6 HZ.out ⟨HXX.out.1,Nat.lt_of_lt_of_le HXX.out.2.1 HF07.out.size⟩ HF5.out.size (HF0.out.trans HF07.out).size _ _ _ _ _⟩,st5_fr (HF0.out.trans (HF07.out.trans HF5.out)) HXX.out.1 _ _ _ _ _⟩
theorem rput_is:∀ (ps:List (List UInt8)),ps≠[]→RPutAt ps
 | [],h=>absurd rfl h
 | [s],_=>rput_one s
 | s::t::ps,_=>rput_more s t ps (rput_is (t::ps) (by simp))
end Go.Proofs.YtlmcfhokfiibkaaGreatDoor
