/- Chapter 09: put. -/
import Derived.Test.YtlmcfhokfiibkaaGreatDoorPca
import Derived.Test.YtlmcfhokfiibkaaGreatDoorPcx
import Derived.Test.YtlmcfhokfiibkaaGreatDoorPtI
import Derived.Deep.CutRange
import Derived.Test.YtlmcfhokfiibkaaGreatDoorReadM
import Derived.Test.YtlmcfhokfiibkaaGreatDoorCpa
namespace Go.Proofs.YtlmcfhokfiibkaaGreatDoor
set_option maxRecDepth 100000
set_option maxHeartbeats 8000000
set_option linter.unusedVariables false
set_option linter.unusedSimpArgs false
open Go.RowKit

theorem pwith_is (v x:JV) (B:Option Addr) (d:Nat) (B':Option Addr) (d':Nat) (C:Option Addr) (f:Nat) (C':Option Addr) (f':Nat) (s:List UInt8) (w:World) (S:Nat→Prop) (hS:∀ b,S b→b<w.heap.size) (hv:InV w S v (vA v B d B' d')) (hx:InV w S x (vA x C f C' f')) (hn:Rd.nv v≤1048576) (hs:s.length≤140737488351232) (l:List (List UInt8 × JV)) (hl:Pt.withM (Pc.mems v) s x=l):
  Calls Tryz.prog 53 #[.agg #[.int .i64 v.kd,.int .i64 v.nm,.string ⟨v.tx.toArray⟩,.slice B v.ls.length d,.slice B' v.ms.length d'],.string ⟨s.toArray⟩,.agg #[.int .i64 x.kd,.int .i64 x.nm,.string ⟨x.tx.toArray⟩,.slice C x.ls.length f,.slice C' x.ms.length f']] w fun e w'=>(∃ (D:Option Addr) (g:Nat),e=.returned (.agg #[.int .i64 6,.int .i64 0,.string ⟨#[]⟩,.slice none 0 0,(.slice D l.length g)])∧InV w' (NeS S w w') (JV.mapV l) (.agg #[.int .i64 6,.int .i64 0,.string ⟨#[]⟩,.slice none 0 0,(.slice D l.length g)]))∧Fr w w':=by
 subst hl
 have h1:=Cp.nvM_len v.ms
 have h2:=Pt.nv_eq v
 refine (twithS_is v x B d B' d' C f C' f' s w S hS hv hx (by omega) (by omega)).mono ?_
 rintro e w' ⟨D,g,rfl,hi,hf⟩
 exact ⟨⟨D,g,rfl,hi⟩,hf⟩
theorem pwo_is (v:JV) (B:Option Addr) (d:Nat) (B':Option Addr) (d':Nat) (s:List UInt8) (w:World) (O:Nat→Prop) (hZ:∀ b,O b→b<w.heap.size) (hv:InV w O v (vA v B d B' d')) (hn:Rd.nv v≤1048576) (l:List (List UInt8 × JV)) (hl:Bk.woM (Pc.mems v) s=l):
  Calls Tryz.prog 54 #[.agg #[.int .i64 v.kd,.int .i64 v.nm,.string ⟨v.tx.toArray⟩,.slice B v.ls.length d,.slice B' v.ms.length d'],.string ⟨s.toArray⟩] w fun e w'=>(∃ (D:Option Addr) (g:Nat),e=.returned (.agg #[.int .i64 6,.int .i64 0,.string ⟨#[]⟩,.slice none 0 0,(.slice D l.length g)])∧InV w' (NeS O w w') (JV.mapV l) (.agg #[.int .i64 6,.int .i64 0,.string ⟨#[]⟩,.slice none 0 0,(.slice D l.length g)]))∧Fr w w':=by
 subst hl
 have h1:=Cp.nvM_len v.ms
 have h2:=Pt.nv_eq v
 have h3:=Bk.wo_len (Pc.mems v) s
 have h4:(Pc.mems v).length≤v.ms.length:=by unfold Pc.mems;split;exact Nat.le_refl _;simp
 refine (withoutS_is v B d B' d' s w O hZ hv (by omega)).mono ?_
 rintro e w' ⟨⟨D,g,rfl,hi⟩,hf⟩
 refine ⟨⟨D,g,rfl,?_⟩,hf⟩
 exact InV.both (l:=[]) (A:=none) (c:=0) (fun i h=>absurd h (by simp)) (hi.map (fun b hb=>hb) (fun _ _ _=>rfl)) (by simp) (Nat.le_trans h3 (by omega)) 6 0 [] (by decide) (by decide) (by decide) (by decide) (by simp)
theorem InV.put6 {w W W5:World} {x:JV} {y:Value} {X:Nat} {O:Nat→Prop} (h:InV W5 (NeS O W W5) x y) (hZ:∀ b,O b→b<w.heap.size) (hX:w.heap.size≤X∧X<W.heap.size) (hs:W.heap.size≤W5.heap.size) (hw:w.heap.size≤W.heap.size) (a b c d e:Value):InV (st5 W5 X a b c d e) (NeS O w (st5 W5 X a b c d e)) x y:=by
 have hf:=st5_frx W5 X a b c d e
 refine h.map (fun q hq=>?_) (fun q o hq=>hf.cell ?_ ?_)
 ·rcases hq with hq | hq
  ·exact .inl hq
  ·exact .inr ⟨Nat.le_trans hw hq.1,Nat.lt_of_lt_of_le hq.2 hf.size⟩
 ·rcases hq with hq | hq
  ·have:=hZ q hq;omega
  ·exact hq.2
 ·rcases hq with hq | hq
  ·have:=hZ q hq;omega
  ·have:=hq.1;omega
def PutAt (ps:List (List UInt8)):Prop:=∀ (v x:JV) (B:Option Addr) (d:Nat) (B':Option Addr) (d':Nat) (C:Option Addr) (f:Nat) (C':Option Addr) (f':Nat) (A:Option Addr) (c:Nat) (w:World) (O:Nat→Prop),(∀ b,O b→b<w.heap.size)→InV w O v (vA v B d B' d')→InV w O x (vA x C f C' f')→PsC w A ps→ps.length≤c→c≤9223372036854775807→(∀ s∈ps,s.length≤140737488351232)→ps.length≤1048577→Rd.nv v≤1048576 → ∀ l,Pc.put v ps x=JV.mapV l →
 Calls Tryz.prog 28 #[.agg #[.int .i64 v.kd,.int .i64 v.nm,.string ⟨v.tx.toArray⟩,.slice B v.ls.length d,.slice B' v.ms.length d'],.slice A ps.length c,.agg #[.int .i64 x.kd,.int .i64 x.nm,.string ⟨x.tx.toArray⟩,.slice C x.ls.length f,.slice C' x.ms.length f']] w fun e w'=>(∃ (D:Option Addr) (g:Nat),e=.returned (.agg #[.int .i64 6,.int .i64 0,.string ⟨#[]⟩,.slice none 0 0,(.slice D l.length g)])∧InV w' (NeS O w w') (JV.mapV l) (.agg #[.int .i64 6,.int .i64 0,.string ⟨#[]⟩,.slice none 0 0,(.slice D l.length g)]))∧Fr w w'
theorem put_one (s:List UInt8):PutAt [s]:=by
 intro v x B d B' d' C f C' f' A c w O hZ hv hx hp hc hc2 ht hl2 hn l hl
 obtain ⟨bP,oP,rfl,hbP,hcP⟩:=hp (by simp)
 have hcs:=hcP 0 (by simp)
 simp only [List.getElem_cons_zero,Nat.add_zero] at hcs
 have hs:=ht s (by simp)
 have hkv:∀ W,Fr w W→InV W O v (vA v B d B' d'):=fun W hW=>hv.keepS hZ hW
 have hkx:∀ W,Fr w W→InV W O x (vA x C f C' f'):=fun W hW=>hx.keepS hZ hW
 have HZ:=Lib.hid hZ
 have HNM:Hid (∀ W,Fr w W→W.cell? ⟨bP,oP,none⟩=some (.string ⟨s.toArray⟩)):=Lib.hid (fun W hW=>(hW.cell hbP).trans hcs)
 by_cases h1:x.kd=1
 ·have q1:(x.kd == 1)=true:=by rw [h1];rfl
  have hlw:Bk.woM (Pc.mems v) s=l:=by
   have:(if x.kd=1 then JV.mapV (Bk.woM (Pc.mems v) s) else JV.mapV (Pt.withM (Pc.mems v) s x))=JV.mapV l:=hl
   rw [if_pos h1] at this
   injection this
  have HWO0:Hid (∀ W,Fr w W→Calls Tryz.prog 54 #[.agg #[.int .i64 v.kd,.int .i64 v.nm,.string ⟨v.tx.toArray⟩,.slice B v.ls.length d,.slice B' v.ms.length d'],.string ⟨s.toArray⟩] W fun e w'=>(∃ (D:Option Addr) (g:Nat),e=.returned (.agg #[.int .i64 6,.int .i64 0,.string ⟨#[]⟩,.slice none 0 0,(.slice D l.length g)])∧InV w' (NeS O W w') (JV.mapV l) (.agg #[.int .i64 6,.int .i64 0,.string ⟨#[]⟩,.slice none 0 0,(.slice D l.length g)]))∧Fr W w'):=Lib.hid (fun W hW=>pwo_is v B d B' d' s W O (ltS hZ hW) (hkv W hW) hn l hlw)
  clear hv hx hp hcP hcs hkv hkx hl hlw h1 ht hn hbP
  go_enter Tryz.func28,Tryz.ntmps28
  go_upto_region 1 with fail
  have hb3:Blk (((w.alloc (.cells #[.int .i64 v.kd,.int .i64 v.nm,.string ⟨v.tx.toArray⟩,.slice B v.ls.length d,.slice B' v.ms.length d'] 25)).alloc (.cells #[.int .i64 x.kd,.int .i64 x.nm,.string ⟨x.tx.toArray⟩,.slice C x.ls.length f,.slice C' x.ms.length f'] 25)).alloc (.cells #[.int .i64 0,.int .i64 0,.string ⟨#[]⟩,.slice none 0 0,.slice none 0 0] 25)) w.heap.size #[.int .i64 v.kd,.int .i64 v.nm,.string ⟨v.tx.toArray⟩,.slice B v.ls.length d,.slice B' v.ms.length d'] 25:=((Blk.made w _ _).keep ((Fr.refl _).alloc _)).keep ((Fr.refl _).alloc _)
  have hb5:Blk (((w.alloc (.cells #[.int .i64 v.kd,.int .i64 v.nm,.string ⟨v.tx.toArray⟩,.slice B v.ls.length d,.slice B' v.ms.length d'] 25)).alloc (.cells #[.int .i64 x.kd,.int .i64 x.nm,.string ⟨x.tx.toArray⟩,.slice C x.ls.length f,.slice C' x.ms.length f'] 25)).alloc (.cells #[.int .i64 0,.int .i64 0,.string ⟨#[]⟩,.slice none 0 0,.slice none 0 0] 25)) (w.heap.size+1) #[.int .i64 x.kd,.int .i64 x.nm,.string ⟨x.tx.toArray⟩,.slice C x.ls.length f,.slice C' x.ms.length f'] 25:=(boxz (Blk.made (w.alloc _) _ _)).keep ((Fr.refl _).alloc _)
  have hb6:Blk (((w.alloc (.cells #[.int .i64 v.kd,.int .i64 v.nm,.string ⟨v.tx.toArray⟩,.slice B v.ls.length d,.slice B' v.ms.length d'] 25)).alloc (.cells #[.int .i64 x.kd,.int .i64 x.nm,.string ⟨x.tx.toArray⟩,.slice C x.ls.length f,.slice C' x.ms.length f'] 25)).alloc (.cells #[.int .i64 0,.int .i64 0,.string ⟨#[]⟩,.slice none 0 0,.slice none 0 0] 25)) (w.heap.size+1+1) #[.int .i64 0,.int .i64 0,.string ⟨#[]⟩,.slice none 0 0,.slice none 0 0] 25:=boxz2 (Blk.made ((w.alloc _).alloc _) _ _)
  have hf0:Fr w (((w.alloc (.cells #[.int .i64 v.kd,.int .i64 v.nm,.string ⟨v.tx.toArray⟩,.slice B v.ls.length d,.slice B' v.ms.length d'] 25)).alloc (.cells #[.int .i64 x.kd,.int .i64 x.nm,.string ⟨x.tx.toArray⟩,.slice C x.ls.length f,.slice C' x.ms.length f'] 25)).alloc (.cells #[.int .i64 0,.int .i64 0,.string ⟨#[]⟩,.slice none 0 0,.slice none 0 0] 25)):=(((Fr.refl w).alloc _).alloc _).alloc _
  generalize (((w.alloc (.cells #[.int .i64 v.kd,.int .i64 v.nm,.string ⟨v.tx.toArray⟩,.slice B v.ls.length d,.slice B' v.ms.length d'] 25)).alloc (.cells #[.int .i64 x.kd,.int .i64 x.nm,.string ⟨x.tx.toArray⟩,.slice C x.ls.length f,.slice C' x.ms.length f'] 25)).alloc (.cells #[.int .i64 0,.int .i64 0,.string ⟨#[]⟩,.slice none 0 0,.slice none 0 0] 25))=W0 at hb3 hb5 hb6 hf0 ⊢
  have HXX:Hid (w.heap.size≤w.heap.size+1+1∧w.heap.size+1+1<W0.heap.size∧w.heap.size≤w.heap.size+1+1):=Lib.hid ⟨by omega,hb6.lt,by omega⟩
  generalize w.heap.size+1+1=X6 at hb6 HXX ⊢
  generalize w.heap.size+1=X5 at hb5 ⊢
  obtain ⟨X3,hX3⟩:∃ X,w.heap.size=X:=⟨_,rfl⟩
  have HX3:=Lib.hid hX3
  rw [hX3] at hb3 ⊢
  clear hX3
  have HB3:=Lib.hid hb3
  have HB5:=Lib.hid hb5
  have HB6:=Lib.hid hb6
  have HF0:=Lib.hid hf0
  clear hb3 hb5 hb6 hf0
  have HWO:Hid (∀ W,Fr W0 W→Calls Tryz.prog 54 #[.agg #[.int .i64 v.kd,.int .i64 v.nm,.string ⟨v.tx.toArray⟩,.slice B v.ls.length d,.slice B' v.ms.length d'],.string ⟨s.toArray⟩] W fun e w'=>(∃ (D:Option Addr) (g:Nat),e=.returned (.agg #[.int .i64 6,.int .i64 0,.string ⟨#[]⟩,.slice none 0 0,(.slice D l.length g)])∧InV w' (NeS O W w') (JV.mapV l) (.agg #[.int .i64 6,.int .i64 0,.string ⟨#[]⟩,.slice none 0 0,(.slice D l.length g)]))∧Fr W w'):=Lib.hid (fun W hW=>HWO0.out W (HF0.out.trans hW))
  have HS5:Hid (∀ W,Fr W0 W→W.cell? ⟨X3,0,none⟩=some (.int .i64 v.kd)∧W.cell? ⟨X3,1,none⟩=some (.int .i64 v.nm)∧W.cell? ⟨X3,2,none⟩=some (.string ⟨v.tx.toArray⟩)∧W.cell? ⟨X3,3,none⟩=some (.slice B v.ls.length d)∧W.cell? ⟨X3,4,none⟩=some (.slice B' v.ms.length d')∧W.cell? ⟨bP,oP,none⟩=some (.string ⟨s.toArray⟩)):=Lib.hid (fun W hW=>by
   have a:=HB3.out.keep hW
   exact ⟨a.cell 0,a.cell 1,a.cell 2,a.cell 3,a.cell 4,HNM.out W (HF0.out.trans hW)⟩)
  obtain ⟨⟨y0,y1,y2,y3,y4⟩,_⟩:=box5 HB5.out
  go_upto_region 5 with fail
  refine OrdL.begin (x:=5) (fun W=>W.cell? ⟨X3,0,none⟩=some (.int .i64 v.kd)∧W.cell? ⟨X3,1,none⟩=some (.int .i64 v.nm)∧W.cell? ⟨X3,2,none⟩=some (.string ⟨v.tx.toArray⟩)∧W.cell? ⟨X3,3,none⟩=some (.slice B v.ls.length d)∧W.cell? ⟨X3,4,none⟩=some (.slice B' v.ms.length d')∧W.cell? ⟨bP,oP,none⟩=some (.string ⟨s.toArray⟩)) (by kernel_rfl) ?_ (fun hH=>?_)
  ·exact HS5.out _ (Fr.refl _).drew
  refine lq 0 [4] rfl hH ?_
  try simp only [Act.put,fl]
  refine lq 1 [2,3,4] rfl hH ?_
  try simp only [Act.put,fl]
  refine lq 2 [3,4] rfl hH ?_
  try simp only [Act.put,fl]
  refine lq 3 [4] rfl hH ?_
  try simp only [Act.put,fl]
  refine OrdL.one (i:=4) rfl (by kernel_rfl) (by rfl) (fun K hK=>?_)
  (go_simp;go_at_call 54;refine (HWO.out _ (Fr.refl W0).drew).mono ?_;rintro e w5 ⟨⟨D,g,rfl,hi⟩,hf⟩;have HI5:=Lib.hid hi;have HF5:Hid (Fr W0 w5):=Lib.hid ((Fr.refl W0).drew.trans hf);clear hi hf)
  refine hK.out _ _ (HS5.out _ HF5.out) (fun hH3=>?_)
  clear hK K
  try simp only [Act.put,fl]
  have hb5:=HB6.out.keep HF5.out
  obtain ⟨⟨q0,q1,q2,q3,q4⟩,qf0,qf1,qf2,qf3,qf4⟩:=box5 hb5
  have HBQ:=Lib.hid hb5
  clear hb5
  refine OrdL.last rfl (by kernel_rfl) (by kernel_rfl) (fun K hK=>?_)
  go_simp
  refine hK.out _ _ ?_
  clear hK K
  try simp only [Act.put,fl]
  go_wp2_with fail
  refine bodyPost_ret (results_cv (by rfl) rfl _ X6 (by rfl) _ _ _ _ _ (set5 HBQ.out)) rfl ?_
  exact ⟨⟨D,g,rfl,HI5.out.put6 HZ.out ⟨HXX.out.1,HXX.out.2.1⟩ HF5.out.size HF0.out.size _ _ _ _ _⟩,st5_fr (HF0.out.trans HF5.out) HXX.out.1 _ _ _ _ _⟩
 ·have q1:(x.kd == 1)=false:=(ikind h1).1
  have hlw:Pt.withM (Pc.mems v) s x=l:=by
   have:(if x.kd=1 then JV.mapV (Bk.woM (Pc.mems v) s) else JV.mapV (Pt.withM (Pc.mems v) s x))=JV.mapV l:=hl
   rw [if_neg h1] at this
   injection this
  have HWI0:Hid (∀ W,Fr w W→Calls Tryz.prog 53 #[.agg #[.int .i64 v.kd,.int .i64 v.nm,.string ⟨v.tx.toArray⟩,.slice B v.ls.length d,.slice B' v.ms.length d'],.string ⟨s.toArray⟩,.agg #[.int .i64 x.kd,.int .i64 x.nm,.string ⟨x.tx.toArray⟩,.slice C x.ls.length f,.slice C' x.ms.length f']] W fun e w'=>(∃ (D:Option Addr) (g:Nat),e=.returned (.agg #[.int .i64 6,.int .i64 0,.string ⟨#[]⟩,.slice none 0 0,(.slice D l.length g)])∧InV w' (NeS O W w') (JV.mapV l) (.agg #[.int .i64 6,.int .i64 0,.string ⟨#[]⟩,.slice none 0 0,(.slice D l.length g)]))∧Fr W w'):=Lib.hid (fun W hW=>pwith_is v x B d B' d' C f C' f' s W O (ltS hZ hW) (hkv W hW) (hkx W hW) hn hs l hlw)
  clear hv hx hp hcP hcs hkv hkx hl hlw h1 ht hn hbP
  go_enter Tryz.func28,Tryz.ntmps28
  go_upto_region 1 with fail
  have hb3:Blk (((w.alloc (.cells #[.int .i64 v.kd,.int .i64 v.nm,.string ⟨v.tx.toArray⟩,.slice B v.ls.length d,.slice B' v.ms.length d'] 25)).alloc (.cells #[.int .i64 x.kd,.int .i64 x.nm,.string ⟨x.tx.toArray⟩,.slice C x.ls.length f,.slice C' x.ms.length f'] 25)).alloc (.cells #[.int .i64 0,.int .i64 0,.string ⟨#[]⟩,.slice none 0 0,.slice none 0 0] 25)) w.heap.size #[.int .i64 v.kd,.int .i64 v.nm,.string ⟨v.tx.toArray⟩,.slice B v.ls.length d,.slice B' v.ms.length d'] 25:=((Blk.made w _ _).keep ((Fr.refl _).alloc _)).keep ((Fr.refl _).alloc _)
  have hb5:Blk (((w.alloc (.cells #[.int .i64 v.kd,.int .i64 v.nm,.string ⟨v.tx.toArray⟩,.slice B v.ls.length d,.slice B' v.ms.length d'] 25)).alloc (.cells #[.int .i64 x.kd,.int .i64 x.nm,.string ⟨x.tx.toArray⟩,.slice C x.ls.length f,.slice C' x.ms.length f'] 25)).alloc (.cells #[.int .i64 0,.int .i64 0,.string ⟨#[]⟩,.slice none 0 0,.slice none 0 0] 25)) (w.heap.size+1) #[.int .i64 x.kd,.int .i64 x.nm,.string ⟨x.tx.toArray⟩,.slice C x.ls.length f,.slice C' x.ms.length f'] 25:=(boxz (Blk.made (w.alloc _) _ _)).keep ((Fr.refl _).alloc _)
  have hb6:Blk (((w.alloc (.cells #[.int .i64 v.kd,.int .i64 v.nm,.string ⟨v.tx.toArray⟩,.slice B v.ls.length d,.slice B' v.ms.length d'] 25)).alloc (.cells #[.int .i64 x.kd,.int .i64 x.nm,.string ⟨x.tx.toArray⟩,.slice C x.ls.length f,.slice C' x.ms.length f'] 25)).alloc (.cells #[.int .i64 0,.int .i64 0,.string ⟨#[]⟩,.slice none 0 0,.slice none 0 0] 25)) (w.heap.size+1+1) #[.int .i64 0,.int .i64 0,.string ⟨#[]⟩,.slice none 0 0,.slice none 0 0] 25:=boxz2 (Blk.made ((w.alloc _).alloc _) _ _)
  have hf0:Fr w (((w.alloc (.cells #[.int .i64 v.kd,.int .i64 v.nm,.string ⟨v.tx.toArray⟩,.slice B v.ls.length d,.slice B' v.ms.length d'] 25)).alloc (.cells #[.int .i64 x.kd,.int .i64 x.nm,.string ⟨x.tx.toArray⟩,.slice C x.ls.length f,.slice C' x.ms.length f'] 25)).alloc (.cells #[.int .i64 0,.int .i64 0,.string ⟨#[]⟩,.slice none 0 0,.slice none 0 0] 25)):=(((Fr.refl w).alloc _).alloc _).alloc _
  generalize (((w.alloc (.cells #[.int .i64 v.kd,.int .i64 v.nm,.string ⟨v.tx.toArray⟩,.slice B v.ls.length d,.slice B' v.ms.length d'] 25)).alloc (.cells #[.int .i64 x.kd,.int .i64 x.nm,.string ⟨x.tx.toArray⟩,.slice C x.ls.length f,.slice C' x.ms.length f'] 25)).alloc (.cells #[.int .i64 0,.int .i64 0,.string ⟨#[]⟩,.slice none 0 0,.slice none 0 0] 25))=W0 at hb3 hb5 hb6 hf0 ⊢
  have HXX:Hid (w.heap.size≤w.heap.size+1+1∧w.heap.size+1+1<W0.heap.size∧w.heap.size≤w.heap.size+1+1):=Lib.hid ⟨by omega,hb6.lt,by omega⟩
  generalize w.heap.size+1+1=X6 at hb6 HXX ⊢
  generalize w.heap.size+1=X5 at hb5 ⊢
  obtain ⟨X3,hX3⟩:∃ X,w.heap.size=X:=⟨_,rfl⟩
  have HX3:=Lib.hid hX3
  rw [hX3] at hb3 ⊢
  clear hX3
  have HB3:=Lib.hid hb3
  have HB5:=Lib.hid hb5
  have HB6:=Lib.hid hb6
  have HF0:=Lib.hid hf0
  clear hb3 hb5 hb6 hf0
  have HWI:Hid (∀ W,Fr W0 W→Calls Tryz.prog 53 #[.agg #[.int .i64 v.kd,.int .i64 v.nm,.string ⟨v.tx.toArray⟩,.slice B v.ls.length d,.slice B' v.ms.length d'],.string ⟨s.toArray⟩,.agg #[.int .i64 x.kd,.int .i64 x.nm,.string ⟨x.tx.toArray⟩,.slice C x.ls.length f,.slice C' x.ms.length f']] W fun e w'=>(∃ (D:Option Addr) (g:Nat),e=.returned (.agg #[.int .i64 6,.int .i64 0,.string ⟨#[]⟩,.slice none 0 0,(.slice D l.length g)])∧InV w' (NeS O W w') (JV.mapV l) (.agg #[.int .i64 6,.int .i64 0,.string ⟨#[]⟩,.slice none 0 0,(.slice D l.length g)]))∧Fr W w'):=Lib.hid (fun W hW=>HWI0.out W (HF0.out.trans hW))
  have HS6:Hid (∀ W,Fr W0 W→W.cell? ⟨X3,0,none⟩=some (.int .i64 v.kd)∧W.cell? ⟨X3,1,none⟩=some (.int .i64 v.nm)∧W.cell? ⟨X3,2,none⟩=some (.string ⟨v.tx.toArray⟩)∧W.cell? ⟨X3,3,none⟩=some (.slice B v.ls.length d)∧W.cell? ⟨X3,4,none⟩=some (.slice B' v.ms.length d')∧W.cell? ⟨X5,0,none⟩=some (.int .i64 x.kd)∧W.cell? ⟨X5,1,none⟩=some (.int .i64 x.nm)∧W.cell? ⟨X5,2,none⟩=some (.string ⟨x.tx.toArray⟩)∧W.cell? ⟨X5,3,none⟩=some (.slice C x.ls.length f)∧W.cell? ⟨X5,4,none⟩=some (.slice C' x.ms.length f')∧W.cell? ⟨bP,oP,none⟩=some (.string ⟨s.toArray⟩)):=Lib.hid (fun W hW=>by
   have a:=HB3.out.keep hW
   have b:=HB5.out.keep hW
   exact ⟨a.cell 0,a.cell 1,a.cell 2,a.cell 3,a.cell 4,b.cell 0,b.cell 1,b.cell 2,b.cell 3,b.cell 4,HNM.out W (HF0.out.trans hW)⟩)
  obtain ⟨⟨y0,y1,y2,y3,y4⟩,_⟩:=box5 HB5.out
  go_upto_region 6 with fail
  refine OrdL.begin (x:=6) (fun W=>W.cell? ⟨X3,0,none⟩=some (.int .i64 v.kd)∧W.cell? ⟨X3,1,none⟩=some (.int .i64 v.nm)∧W.cell? ⟨X3,2,none⟩=some (.string ⟨v.tx.toArray⟩)∧W.cell? ⟨X3,3,none⟩=some (.slice B v.ls.length d)∧W.cell? ⟨X3,4,none⟩=some (.slice B' v.ms.length d')∧W.cell? ⟨X5,0,none⟩=some (.int .i64 x.kd)∧W.cell? ⟨X5,1,none⟩=some (.int .i64 x.nm)∧W.cell? ⟨X5,2,none⟩=some (.string ⟨x.tx.toArray⟩)∧W.cell? ⟨X5,3,none⟩=some (.slice C x.ls.length f)∧W.cell? ⟨X5,4,none⟩=some (.slice C' x.ms.length f')∧W.cell? ⟨bP,oP,none⟩=some (.string ⟨s.toArray⟩)) (by kernel_rfl) ?_ (fun hH=>?_)
  ·exact HS6.out _ (Fr.refl _).drew
  refine lq 0 [5] rfl hH ?_
  try simp only [Act.put,fl]
  refine lq 1 [2,3,5] rfl hH ?_
  try simp only [Act.put,fl]
  refine lq 2 [3,5] rfl hH ?_
  try simp only [Act.put,fl]
  refine lq 3 [5] rfl hH ?_
  try simp only [Act.put,fl]
  refine lq 4 [5] rfl hH ?_
  try simp only [Act.put,fl]
  refine OrdL.one (i:=5) rfl (by kernel_rfl) (by rfl) (fun K hK=>?_)
  (go_simp;go_at_call 53;refine (HWI.out _ (Fr.refl W0).drew).mono ?_;rintro e w5 ⟨⟨D,g,rfl,hi⟩,hf⟩;have HI5:=Lib.hid hi;have HF5:Hid (Fr W0 w5):=Lib.hid ((Fr.refl W0).drew.trans hf);clear hi hf)
  refine hK.out _ _ (HS6.out _ HF5.out) (fun hH3=>?_)
  clear hK K
  try simp only [Act.put,fl]
  have hb5:=HB6.out.keep HF5.out
  obtain ⟨⟨q0,q1,q2,q3,q4⟩,qf0,qf1,qf2,qf3,qf4⟩:=box5 hb5
  have HBQ:=Lib.hid hb5
  clear hb5
  refine OrdL.last rfl (by kernel_rfl) (by kernel_rfl) (fun K hK=>?_)
  go_simp
  refine hK.out _ _ ?_
  clear hK K
  try simp only [Act.put,fl]
  go_wp2_with fail
  refine bodyPost_ret (results_cv (by rfl) rfl _ X6 (by rfl) _ _ _ _ _ (set5 HBQ.out)) rfl ?_
  exact ⟨⟨D,g,rfl,HI5.out.put6 HZ.out ⟨HXX.out.1,HXX.out.2.1⟩ HF5.out.size HF0.out.size _ _ _ _ _⟩,st5_fr (HF0.out.trans HF5.out) HXX.out.1 _ _ _ _ _⟩
/- Chapter 09: put, more parts than one. -/

theorem Pc.put_map (v x:JV):∀ (ps:List (List UInt8)),ps≠[] → ∃ l,Pc.put v ps x=JV.mapV l
 | [],h=>absurd rfl h
 | [s],_=>by
  show ∃ l,(if x.kd=1 then JV.mapV (Bk.woM (Pc.mems v) s) else JV.mapV (Pt.withM (Pc.mems v) s x))=JV.mapV l
  split
  ·exact ⟨_,rfl⟩
  ·exact ⟨_,rfl⟩
 | s::t::ps,_=>⟨_,rfl⟩
theorem put_more (s t:List UInt8) (ps:List (List UInt8)) (ih:PutAt (t::ps)):PutAt (s::t::ps):=by
 intro v x B d B' d' C f C' f' A c w O hZ hv hx hp hc hc2 ht hl2 hn l hl
 obtain ⟨bP,oP,rfl,hbP,hcP⟩:=hp (by simp)
 have hcs:=hcP 0 (by simp)
 simp only [List.getElem_cons_zero,Nat.add_zero] at hcs
 obtain ⟨A',hcut,hps,hpc⟩:=psc_cut hp hc hc2
 have hs:=ht s (by simp)
 have hkv:∀ W,Fr w W→InV W O v (vA v B d B' d'):=fun W hW=>hv.keepS hZ hW
 have hkx:∀ W,Fr w W→InV W O x (vA x C f C' f'):=fun W hW=>hx.keepS hZ hW
 obtain ⟨r,hr⟩:∃ r,(Pt.get v s).getD JV.zeroV=r:=⟨_,rfl⟩
 have hrn:Rd.nv r≤1048576:=by
  rw [← hr]
  cases hg:Pt.get v s with
  | none=>decide
  | some y=>have:=Pt.nvM_mem (Bk.get_mem hg).2;have:=Pt.nv_eq v;show Rd.nv y≤_;have h3:Rd.nv y≤Rd.nvM v.ms:=Pt.nvM_mem (Bk.get_mem hg).2;omega
 obtain ⟨li,hli⟩:=Pc.put_map r x (t::ps) (by simp)
 have hlw:Pt.withM (Pc.mems v) s (JV.mapV li)=l:=by
  have:JV.mapV (Pt.withM (Pc.mems v) s (Pc.put ((Pt.get v s).getD JV.zeroV) (t::ps) x))=JV.mapV l:=hl
  rw [hr,hli] at this
  injection this
 have hgt:∀ W,Fr w W→Calls Tryz.prog 52 #[.agg #[.int .i64 v.kd,.int .i64 v.nm,.string ⟨v.tx.toArray⟩,.slice B v.ls.length d,.slice B' v.ms.length d'],.string ⟨s.toArray⟩] W fun e w'=>∃ (E:Option Addr) (e1:Nat) (E':Option Addr) (e1':Nat),(∃ bb,e=.returned (.tuple #[.agg #[.int .i64 r.kd,.int .i64 r.nm,.string ⟨r.tx.toArray⟩,.slice E r.ls.length e1,.slice E' r.ms.length e1'],.bool bb]))∧InV w' O r (vA r E e1 E' e1')∧Fr W w':=fun W hW=>by
  have h:=getS_is v B d B' d' s W O (ltS hZ hW) (hkv W hW)
  subst hr
  cases hg:Pt.get v s with
  | none=>rw [hg] at h;exact h.mono (fun e w' k=>⟨none,0,none,0,⟨_,k.1⟩,zeroV_in _ _,k.2⟩)
  | some y=>rw [hg] at h;exact h.mono (fun e w' ⟨E,e1,E',e1',k1,k2,k3⟩=>⟨E,e1,E',e1',⟨_,k1⟩,k2,k3⟩)
 have hpu:=fun W (hW:Fr w W) E e E' e' (hi:InV W O r (vA r E e E' e'))=>ih r x E e E' e' C f C' f' A' (c - 1) W O (ltS hZ hW) hi (hkx W hW) (hps W hW) hpc (by omega) (fun q hq=>ht q (List.mem_cons_of_mem _ hq)) (by simp only [List.length_cons] at hl2 ⊢;omega) hrn li hli
 obtain ⟨tl,htl⟩:∃ tl,t::ps=tl:=⟨_,rfl⟩
 have htl0:0<tl.length:=by rw [← htl];simp
 rw [htl] at hcut hps hpc hpu
 have hc3:tl.length+1≤c:=by rw [← htl];exact hc
 have htl2:tl.length+1≤1048577:=by rw [← htl];exact hl2
 have hlen:(1:Int)<(tl.length:Int)+1:=by omega
 have hlen0:(0:Int)<(tl.length:Int)+1:=by omega
 have HZ:=Lib.hid hZ
 have HNM:Hid (∀ W,Fr w W→W.cell? ⟨bP,oP,none⟩=some (.string ⟨s.toArray⟩)):=Lib.hid (fun W hW=>(hW.cell hbP).trans hcs)
 have HKV:=Lib.hid hkv
 have HGT0:=Lib.hid hgt
 have HPU0:=Lib.hid hpu
 have HWI0:Hid (∀ (W:World) (S:Nat→Prop),(∀ b,S b→b<W.heap.size)→InV W S v (vA v B d B' d') → ∀ D8 g8,InV W S (JV.mapV li) (.agg #[.int .i64 6,.int .i64 0,.string ⟨#[]⟩,.slice none 0 0,(.slice D8 li.length g8)])→Calls Tryz.prog 53 #[.agg #[.int .i64 v.kd,.int .i64 v.nm,.string ⟨v.tx.toArray⟩,.slice B v.ls.length d,.slice B' v.ms.length d'],.string ⟨s.toArray⟩,.agg #[.int .i64 6,.int .i64 0,.string ⟨#[]⟩,.slice none 0 0,(.slice D8 li.length g8)]] W fun e w'=>(∃ (D:Option Addr) (g:Nat),e=.returned (.agg #[.int .i64 6,.int .i64 0,.string ⟨#[]⟩,.slice none 0 0,(.slice D l.length g)])∧InV w' (NeS S W w') (JV.mapV l) (.agg #[.int .i64 6,.int .i64 0,.string ⟨#[]⟩,.slice none 0 0,(.slice D l.length g)]))∧Fr W w'):=Lib.hid (fun W S hS hv D8 g8 hi=>pwith_is v (JV.mapV li) B d B' d' none 0 D8 g8 s W S hS hv hi hn hs l hlw)
 have hgoal:(s::t::ps).length=tl.length+1:=by rw [← htl];rfl
 rw [hgoal]
 clear hv hx hp hcP hcs hkv hkx hl hlw ht hn hbP hgt hpu hr hli hrn hps hc hl2 htl hgoal ih hs
 go_enter Tryz.func28,Tryz.ntmps28
 go_upto_region 1 with fail
 have hb3:Blk (((w.alloc (.cells #[.int .i64 v.kd,.int .i64 v.nm,.string ⟨v.tx.toArray⟩,.slice B v.ls.length d,.slice B' v.ms.length d'] 25)).alloc (.cells #[.int .i64 x.kd,.int .i64 x.nm,.string ⟨x.tx.toArray⟩,.slice C x.ls.length f,.slice C' x.ms.length f'] 25)).alloc (.cells #[.int .i64 0,.int .i64 0,.string ⟨#[]⟩,.slice none 0 0,.slice none 0 0] 25)) w.heap.size #[.int .i64 v.kd,.int .i64 v.nm,.string ⟨v.tx.toArray⟩,.slice B v.ls.length d,.slice B' v.ms.length d'] 25:=((Blk.made w _ _).keep ((Fr.refl _).alloc _)).keep ((Fr.refl _).alloc _)
 have hb5:Blk (((w.alloc (.cells #[.int .i64 v.kd,.int .i64 v.nm,.string ⟨v.tx.toArray⟩,.slice B v.ls.length d,.slice B' v.ms.length d'] 25)).alloc (.cells #[.int .i64 x.kd,.int .i64 x.nm,.string ⟨x.tx.toArray⟩,.slice C x.ls.length f,.slice C' x.ms.length f'] 25)).alloc (.cells #[.int .i64 0,.int .i64 0,.string ⟨#[]⟩,.slice none 0 0,.slice none 0 0] 25)) (w.heap.size+1) #[.int .i64 x.kd,.int .i64 x.nm,.string ⟨x.tx.toArray⟩,.slice C x.ls.length f,.slice C' x.ms.length f'] 25:=(boxz (Blk.made (w.alloc _) _ _)).keep ((Fr.refl _).alloc _)
 have hb6:Blk (((w.alloc (.cells #[.int .i64 v.kd,.int .i64 v.nm,.string ⟨v.tx.toArray⟩,.slice B v.ls.length d,.slice B' v.ms.length d'] 25)).alloc (.cells #[.int .i64 x.kd,.int .i64 x.nm,.string ⟨x.tx.toArray⟩,.slice C x.ls.length f,.slice C' x.ms.length f'] 25)).alloc (.cells #[.int .i64 0,.int .i64 0,.string ⟨#[]⟩,.slice none 0 0,.slice none 0 0] 25)) (w.heap.size+1+1) #[.int .i64 0,.int .i64 0,.string ⟨#[]⟩,.slice none 0 0,.slice none 0 0] 25:=boxz2 (Blk.made ((w.alloc _).alloc _) _ _)
 have hf0:Fr w (((w.alloc (.cells #[.int .i64 v.kd,.int .i64 v.nm,.string ⟨v.tx.toArray⟩,.slice B v.ls.length d,.slice B' v.ms.length d'] 25)).alloc (.cells #[.int .i64 x.kd,.int .i64 x.nm,.string ⟨x.tx.toArray⟩,.slice C x.ls.length f,.slice C' x.ms.length f'] 25)).alloc (.cells #[.int .i64 0,.int .i64 0,.string ⟨#[]⟩,.slice none 0 0,.slice none 0 0] 25)):=(((Fr.refl w).alloc _).alloc _).alloc _
 generalize (((w.alloc (.cells #[.int .i64 v.kd,.int .i64 v.nm,.string ⟨v.tx.toArray⟩,.slice B v.ls.length d,.slice B' v.ms.length d'] 25)).alloc (.cells #[.int .i64 x.kd,.int .i64 x.nm,.string ⟨x.tx.toArray⟩,.slice C x.ls.length f,.slice C' x.ms.length f'] 25)).alloc (.cells #[.int .i64 0,.int .i64 0,.string ⟨#[]⟩,.slice none 0 0,.slice none 0 0] 25))=W0 at hb3 hb5 hb6 hf0 ⊢
 have HXX:Hid (w.heap.size≤w.heap.size+1+1∧w.heap.size+1+1<W0.heap.size∧w.heap.size≤w.heap.size+1+1):=Lib.hid ⟨by omega,hb6.lt,by omega⟩
 generalize w.heap.size+1+1=X6 at hb6 HXX ⊢
 generalize w.heap.size+1=X5 at hb5 ⊢
 obtain ⟨X3,hX3⟩:∃ X,w.heap.size=X:=⟨_,rfl⟩
 have HX3:=Lib.hid hX3
 rw [hX3] at hb3 ⊢
 clear hX3
 have HB3:=Lib.hid hb3
 have HB5:=Lib.hid hb5
 have HB6:=Lib.hid hb6
 have HF0:=Lib.hid hf0
 clear hb3 hb5 hb6 hf0
 have HZ0:Hid (∀ b,O b→b<W0.heap.size):=Lib.hid (ltS HZ.out HF0.out)
 have HWZ:Hid (∀ W,Fr W0 W → ∀ b,O b→b<W.heap.size):=Lib.hid (fun W hW=>ltS HZ0.out hW)
 have HS2:Hid (∀ W,Fr W0 W→W.cell? ⟨X3,0,none⟩=some (.int .i64 v.kd)∧W.cell? ⟨X3,1,none⟩=some (.int .i64 v.nm)∧W.cell? ⟨X3,2,none⟩=some (.string ⟨v.tx.toArray⟩)∧W.cell? ⟨X3,3,none⟩=some (.slice B v.ls.length d)∧W.cell? ⟨X3,4,none⟩=some (.slice B' v.ms.length d')∧W.cell? ⟨bP,oP,none⟩=some (.string ⟨s.toArray⟩)):=Lib.hid (fun W hW=>by
  have a:=HB3.out.keep hW
  exact ⟨a.cell 0,a.cell 1,a.cell 2,a.cell 3,a.cell 4,HNM.out W (HF0.out.trans hW)⟩)
 have HGT:Hid (∀ W,Fr W0 W→Calls Tryz.prog 52 #[.agg #[.int .i64 v.kd,.int .i64 v.nm,.string ⟨v.tx.toArray⟩,.slice B v.ls.length d,.slice B' v.ms.length d'],.string ⟨s.toArray⟩] W fun e w'=>∃ (E:Option Addr) (e1:Nat) (E':Option Addr) (e1':Nat),(∃ bb,e=.returned (.tuple #[.agg #[.int .i64 r.kd,.int .i64 r.nm,.string ⟨r.tx.toArray⟩,.slice E r.ls.length e1,.slice E' r.ms.length e1'],.bool bb]))∧InV w' O r (vA r E e1 E' e1')∧Fr W w'):=Lib.hid (fun W hW=>HGT0.out W (HF0.out.trans hW))
 go_upto_region 2 with fail
 go_cut [7] from 13 to 20 (fun q wx=>∃ (X7:Nat) (E:Option Addr) (e:Nat) (E':Option Addr) (e':Nat),q=.pointer (some ⟨X7,0,none⟩)∧Hid (W0.heap.size≤X7)∧Hid (Blk wx X7 #[.int .i64 r.kd,.int .i64 r.nm,.string ⟨r.tx.toArray⟩,.slice E r.ls.length e,.slice E' r.ms.length e'] 25)∧Hid (InV wx O r (vA r E e E' e'))∧Hid (Fr W0 wx))
 case first=>
  refine wp_region_held_drew (S:=(fun W=>W.cell? ⟨X3,0,none⟩=some (.int .i64 v.kd)∧W.cell? ⟨X3,1,none⟩=some (.int .i64 v.nm)∧W.cell? ⟨X3,2,none⟩=some (.string ⟨v.tx.toArray⟩)∧W.cell? ⟨X3,3,none⟩=some (.slice B v.ls.length d)∧W.cell? ⟨X3,4,none⟩=some (.slice B' v.ms.length d')∧W.cell? ⟨bP,oP,none⟩=some (.string ⟨s.toArray⟩))) (by kernel_rfl) ?_ (fun hHeld=>?_)
  ·exact HS2.out _ (Fr.refl _).drew
  refine tk (i:=0) (v:=?_) rfl ⟨by rfl,?_⟩ hHeld ?_
  rotate_left
  ·(intro w' hSw;(try dsimp only at hSw);go_simp;try with_reducible rfl)
  try simp only [Act.put,fl]
  refine tk (i:=1) (v:=?_) rfl ⟨by rfl,?_⟩ hHeld ?_
  rotate_left
  ·(intro w' hSw;(try dsimp only at hSw);go_simp;try with_reducible rfl)
  try simp only [Act.put,fl]
  refine tk (i:=2) (v:=?_) rfl ⟨by rfl,?_⟩ hHeld ?_
  rotate_left
  ·(intro w' hSw;(try dsimp only at hSw);go_simp;try with_reducible rfl)
  try simp only [Act.put,fl]
  refine tk (i:=3) (v:=?_) rfl ⟨by rfl,?_⟩ hHeld ?_
  rotate_left
  ·(intro w' hSw;(try dsimp only at hSw);go_simp;try with_reducible rfl)
  try simp only [Act.put,fl]
  refine wpAnyH_ready (rs:=[4,8]) (by kernel_rfl) (by simp) ?_
  refine AllReadyH.cons rfl (fun K hK=>?_) (AllReadyH.cons rfl (fun K hK=>?_) AllReadyH.nil)
  ·go_simp
   (go_at_call 52;refine (HGT.out _ (Fr.refl W0).drew).mono ?_;rintro en w1 ⟨E,e,E',e',⟨bb,rfl⟩,hi,hf⟩;have HI:=Lib.hid hi;clear hi;have HF1:Hid (Fr W0 w1):=Lib.hid ((Fr.refl W0).drew.trans hf);clear hf)
   refine hK.out _ _ (HS2.out _ HF1.out) (fun hH2=>?_)
   clear hK K
   try simp only [Act.put,fl]
   refine tk (i:=5) (v:=?_) rfl ⟨by rfl,?_⟩ hH2 ?_
   rotate_left
   ·(intro w' hSw;(try dsimp only at hSw);go_simp;try with_reducible rfl)
   try simp only [Act.put,fl]
   refine tk (i:=6) (v:=?_) rfl ⟨by rfl,?_⟩ hH2 ?_
   rotate_left
   ·(intro w' hSw;(try dsimp only at hSw);go_simp;try with_reducible rfl)
   try simp only [Act.put,fl]
   refine tk (i:=7) (v:=?_) rfl ⟨by rfl,?_⟩ hH2 ?_
   rotate_left
   ·(intro w' hSw;(try dsimp only at hSw);go_simp;try with_reducible rfl)
   try simp only [Act.put,fl]
   refine wpAnyH_ready (rs:=[8]) (by kernel_rfl) (by simp) ?_
   refine AllReadyH.cons rfl (fun K hK=>?_) AllReadyH.nil
   go_simp
   refine hK.out _ _ (HS2.out _ (HF1.out.alloc _)) (fun hH3=>?_)
   clear hK K
   try simp only [Act.put,fl]
   have HB7:Hid (Blk (w1.alloc (.cells #[.int .i64 0,.int .i64 0,.string ⟨#[]⟩,.slice none 0 0,.slice none 0 0] 25)) w1.heap.size #[.int .i64 0,.int .i64 0,.string ⟨#[]⟩,.slice none 0 0,.slice none 0 0] 25):=Lib.hid (Blk.made w1 _ _)
   have HF7:Hid (Fr W0 (w1.alloc (.cells #[.int .i64 0,.int .i64 0,.string ⟨#[]⟩,.slice none 0 0,.slice none 0 0] 25))):=Lib.hid (HF1.out.alloc _)
   have HX7:Hid (W0.heap.size≤w1.heap.size):=Lib.hid HF1.out.size
   have HH7:Hid (Fr w1 (w1.alloc (.cells #[.int .i64 0,.int .i64 0,.string ⟨#[]⟩,.slice none 0 0,.slice none 0 0] 25))):=Lib.hid ((Fr.refl w1).alloc _)
   generalize (w1.alloc (.cells #[.int .i64 0,.int .i64 0,.string ⟨#[]⟩,.slice none 0 0,.slice none 0 0] 25))=W7 at HB7 HF7 HH7 ⊢
   generalize w1.heap.size=X7 at HB7 HX7 ⊢
   obtain ⟨⟨z0,z1,z2,z3,z4⟩,zf0,zf1,zf2,zf3,zf4⟩:=box5 HB7.out
   refine wpAnyH_ready (rs:=[9]) (by kernel_rfl) (by simp) ?_
   refine AllReadyH.cons rfl (fun K hK=>?_) AllReadyH.nil
   go_simp
   refine hK.out _ _ (HS2.out _ (st5_fr HF7.out HX7.out _ _ _ _ _)) (fun hH5=>?_)
   clear hK K
   try simp only [Act.put,fl]
   refine tk (i:=10) (v:=?_) rfl ⟨by rfl,?_⟩ hH5 ?_
   rotate_left
   ·(intro w' hSw;(try dsimp only at hSw);go_simp;try with_reducible rfl)
   try simp only [Act.put,fl]
   refine wpAnyH_done (by kernel_rfl) ?_ _
   have hb9:Blk (((((W7.setCell ⟨X7,0,none⟩ (.int .i64 r.kd)).setCell ⟨X7,1,none⟩ (.int .i64 r.nm)).setCell ⟨X7,2,none⟩ (.string ⟨r.tx.toArray⟩)).setCell ⟨X7,3,none⟩ (.slice E r.ls.length e)).setCell ⟨X7,4,none⟩ (.slice E' r.ms.length e')) X7 #[.int .i64 r.kd,.int .i64 r.nm,.string ⟨r.tx.toArray⟩,.slice E r.ls.length e,.slice E' r.ms.length e'] 25:=set5 HB7.out
   have hf9:Fr W0 (((((W7.setCell ⟨X7,0,none⟩ (.int .i64 r.kd)).setCell ⟨X7,1,none⟩ (.int .i64 r.nm)).setCell ⟨X7,2,none⟩ (.string ⟨r.tx.toArray⟩)).setCell ⟨X7,3,none⟩ (.slice E r.ls.length e)).setCell ⟨X7,4,none⟩ (.slice E' r.ms.length e')):=st5_fr HF7.out HX7.out _ _ _ _ _
   have hi9:InV (((((W7.setCell ⟨X7,0,none⟩ (.int .i64 r.kd)).setCell ⟨X7,1,none⟩ (.int .i64 r.nm)).setCell ⟨X7,2,none⟩ (.string ⟨r.tx.toArray⟩)).setCell ⟨X7,3,none⟩ (.slice E r.ls.length e)).setCell ⟨X7,4,none⟩ (.slice E' r.ms.length e')) O r (vA r E e E' e'):=((HI.out.keepS (HWZ.out _ HF1.out) HH7.out).map (fun b hb=>hb) (fun b o hb=>(st5_frx W7 X7 _ _ _ _ _).cell (HWZ.out _ HF7.out b hb) (by have:=HZ0.out b hb;have:=HX7.out;omega)))
   clear z0 z1 z2 z3 z4 zf0 zf1 zf2 zf3 zf4
   generalize (((((W7.setCell ⟨X7,0,none⟩ (.int .i64 r.kd)).setCell ⟨X7,1,none⟩ (.int .i64 r.nm)).setCell ⟨X7,2,none⟩ (.string ⟨r.tx.toArray⟩)).setCell ⟨X7,3,none⟩ (.slice E r.ls.length e)).setCell ⟨X7,4,none⟩ (.slice E' r.ms.length e'))=W9 at hb9 hf9 hi9 ⊢
   have HB9:=Lib.hid hb9
   have HF9:=Lib.hid hf9
   have HI9:=Lib.hid hi9
   clear hb9 hf9 hi9
   repeat (first | go_skip | go_step)
   go_meet
   exact ⟨X7,E,e,E',e',rfl,HX7,HB9,HI9,HF9⟩
  ·go_simp
   refine hK.out _ _ (HS2.out _ ((Fr.refl W0).drew.alloc _)) (fun hH2=>?_)
   clear hK K
   try simp only [Act.put,fl]
   refine wpAnyH_ready (rs:=[4]) (by kernel_rfl) (by simp) ?_
   refine AllReadyH.cons rfl (fun K hK=>?_) AllReadyH.nil
   go_simp
   (go_at_call 52;refine (HGT.out _ ((Fr.refl W0).drew.alloc _)).mono ?_;rintro en w1 ⟨E,e,E',e',⟨bb,rfl⟩,hi,hf⟩;have HI:=Lib.hid hi;clear hi;have HF7:Hid (Fr W0 w1):=Lib.hid (((Fr.refl W0).drew.alloc _).trans hf);have HB7:Hid (Blk w1 W0.heap.size #[.int .i64 0,.int .i64 0,.string ⟨#[]⟩,.slice none 0 0,.slice none 0 0] 25):=Lib.hid ((Blk.made W0.drew _ _).keep hf);have HX7:Hid (W0.heap.size≤W0.heap.size):=Lib.hid (Nat.le_refl _);have HH7:Hid (Fr w1 w1):=Lib.hid (Fr.refl w1);clear hf)
   refine hK.out _ _ (HS2.out _ HF7.out) (fun hH3=>?_)
   clear hK K
   try simp only [Act.put,fl]
   refine tk (i:=5) (v:=?_) rfl ⟨by rfl,?_⟩ hH3 ?_
   rotate_left
   ·(intro w' hSw;(try dsimp only at hSw);go_simp;try with_reducible rfl)
   try simp only [Act.put,fl]
   refine tk (i:=6) (v:=?_) rfl ⟨by rfl,?_⟩ hH3 ?_
   rotate_left
   ·(intro w' hSw;(try dsimp only at hSw);go_simp;try with_reducible rfl)
   try simp only [Act.put,fl]
   refine tk (i:=7) (v:=?_) rfl ⟨by rfl,?_⟩ hH3 ?_
   rotate_left
   ·(intro w' hSw;(try dsimp only at hSw);go_simp;try with_reducible rfl)
   try simp only [Act.put,fl]
   obtain ⟨⟨z0,z1,z2,z3,z4⟩,zf0,zf1,zf2,zf3,zf4⟩:=box5 HB7.out
   refine wpAnyH_ready (rs:=[9]) (by kernel_rfl) (by simp) ?_
   refine AllReadyH.cons rfl (fun K hK=>?_) AllReadyH.nil
   go_simp
   refine hK.out _ _ (HS2.out _ (st5_fr HF7.out HX7.out _ _ _ _ _)) (fun hH5=>?_)
   clear hK K
   try simp only [Act.put,fl]
   refine tk (i:=10) (v:=?_) rfl ⟨by rfl,?_⟩ hH5 ?_
   rotate_left
   ·(intro w' hSw;(try dsimp only at hSw);go_simp;try with_reducible rfl)
   try simp only [Act.put,fl]
   refine wpAnyH_done (by kernel_rfl) ?_ _
   have hb9:Blk (((((w1.setCell ⟨W0.heap.size,0,none⟩ (.int .i64 r.kd)).setCell ⟨W0.heap.size,1,none⟩ (.int .i64 r.nm)).setCell ⟨W0.heap.size,2,none⟩ (.string ⟨r.tx.toArray⟩)).setCell ⟨W0.heap.size,3,none⟩ (.slice E r.ls.length e)).setCell ⟨W0.heap.size,4,none⟩ (.slice E' r.ms.length e')) W0.heap.size #[.int .i64 r.kd,.int .i64 r.nm,.string ⟨r.tx.toArray⟩,.slice E r.ls.length e,.slice E' r.ms.length e'] 25:=set5 HB7.out
   have hf9:Fr W0 (((((w1.setCell ⟨W0.heap.size,0,none⟩ (.int .i64 r.kd)).setCell ⟨W0.heap.size,1,none⟩ (.int .i64 r.nm)).setCell ⟨W0.heap.size,2,none⟩ (.string ⟨r.tx.toArray⟩)).setCell ⟨W0.heap.size,3,none⟩ (.slice E r.ls.length e)).setCell ⟨W0.heap.size,4,none⟩ (.slice E' r.ms.length e')):=st5_fr HF7.out HX7.out _ _ _ _ _
   have hi9:InV (((((w1.setCell ⟨W0.heap.size,0,none⟩ (.int .i64 r.kd)).setCell ⟨W0.heap.size,1,none⟩ (.int .i64 r.nm)).setCell ⟨W0.heap.size,2,none⟩ (.string ⟨r.tx.toArray⟩)).setCell ⟨W0.heap.size,3,none⟩ (.slice E r.ls.length e)).setCell ⟨W0.heap.size,4,none⟩ (.slice E' r.ms.length e')) O r (vA r E e E' e'):=((HI.out.keepS (HWZ.out _ HF7.out) HH7.out).map (fun b hb=>hb) (fun b o hb=>(st5_frx w1 W0.heap.size _ _ _ _ _).cell (HWZ.out _ HF7.out b hb) (by have:=HZ0.out b hb;have:=HX7.out;omega)))
   clear z0 z1 z2 z3 z4 zf0 zf1 zf2 zf3 zf4
   generalize (((((w1.setCell ⟨W0.heap.size,0,none⟩ (.int .i64 r.kd)).setCell ⟨W0.heap.size,1,none⟩ (.int .i64 r.nm)).setCell ⟨W0.heap.size,2,none⟩ (.string ⟨r.tx.toArray⟩)).setCell ⟨W0.heap.size,3,none⟩ (.slice E r.ls.length e)).setCell ⟨W0.heap.size,4,none⟩ (.slice E' r.ms.length e'))=W9 at hb9 hf9 hi9 ⊢
   have HB9:=Lib.hid hb9
   have HF9:=Lib.hid hf9
   have HI9:=Lib.hid hi9
   clear hb9 hf9 hi9
   repeat (first | go_skip | go_step)
   go_meet
   exact ⟨W0.heap.size,E,e,E',e',rfl,HX7,HB9,HI9,HF9⟩
 obtain ⟨X7,E,e,E',e',rfl,HX7,HB7,HI7,HF07⟩:=hcut
 obtain ⟨W7,hW7⟩:∃ W,W=wc:=⟨wc,rfl⟩
 subst hW7
 have HPU:Hid (∀ W,Fr W7 W→Calls Tryz.prog 28 #[.agg #[.int .i64 r.kd,.int .i64 r.nm,.string ⟨r.tx.toArray⟩,.slice E r.ls.length e,.slice E' r.ms.length e'],.slice A' tl.length (c - 1),.agg #[.int .i64 x.kd,.int .i64 x.nm,.string ⟨x.tx.toArray⟩,.slice C x.ls.length f,.slice C' x.ms.length f']] W fun en w'=>(∃ (D:Option Addr) (g:Nat),en=.returned (.agg #[.int .i64 6,.int .i64 0,.string ⟨#[]⟩,.slice none 0 0,(.slice D li.length g)])∧InV w' (NeS O W w') (JV.mapV li) (.agg #[.int .i64 6,.int .i64 0,.string ⟨#[]⟩,.slice none 0 0,(.slice D li.length g)]))∧Fr W w'):=Lib.hid (fun W hW=>HPU0.out W ((HF0.out.trans HF07.out).trans hW) E e E' e' (HI7.out.keepS (HWZ.out _ HF07.out) hW))
 have HWI:Hid (∀ (w8:World) D8 g8 (_:True),Fr W7 w8→InV w8 (NeS O W7 w8) (JV.mapV li) (.agg #[.int .i64 6,.int .i64 0,.string ⟨#[]⟩,.slice none 0 0,(.slice D8 li.length g8)])→Calls Tryz.prog 53 #[.agg #[.int .i64 v.kd,.int .i64 v.nm,.string ⟨v.tx.toArray⟩,.slice B v.ls.length d,.slice B' v.ms.length d'],.string ⟨s.toArray⟩,.agg #[.int .i64 6,.int .i64 0,.string ⟨#[]⟩,.slice none 0 0,(.slice D8 li.length g8)]] w8 fun en w'=>(∃ (D:Option Addr) (g:Nat),en=.returned (.agg #[.int .i64 6,.int .i64 0,.string ⟨#[]⟩,.slice none 0 0,(.slice D l.length g)])∧InV w' (NeS (NeS O W7 w8) w8 w') (JV.mapV l) (.agg #[.int .i64 6,.int .i64 0,.string ⟨#[]⟩,.slice none 0 0,(.slice D l.length g)]))∧Fr w8 w'):=Lib.hid (fun w8 D8 g8 _ hW hi=>HWI0.out w8 _ (fun b hb=>by
  rcases hb with hb | hb
  ·exact HWZ.out _ (HF07.out.trans hW) b hb
  ·exact hb.2) ((HKV.out w8 ((HF0.out.trans HF07.out).trans hW)).more (fun b hb=>.inl hb)) D8 g8 hi)
 have HS3:Hid (∀ W,Fr W7 W→W.cell? ⟨X3,0,none⟩=some (.int .i64 v.kd)∧W.cell? ⟨X3,1,none⟩=some (.int .i64 v.nm)∧W.cell? ⟨X3,2,none⟩=some (.string ⟨v.tx.toArray⟩)∧W.cell? ⟨X3,3,none⟩=some (.slice B v.ls.length d)∧W.cell? ⟨X3,4,none⟩=some (.slice B' v.ms.length d')∧W.cell? ⟨X5,0,none⟩=some (.int .i64 x.kd)∧W.cell? ⟨X5,1,none⟩=some (.int .i64 x.nm)∧W.cell? ⟨X5,2,none⟩=some (.string ⟨x.tx.toArray⟩)∧W.cell? ⟨X5,3,none⟩=some (.slice C x.ls.length f)∧W.cell? ⟨X5,4,none⟩=some (.slice C' x.ms.length f')∧W.cell? ⟨X7,0,none⟩=some (.int .i64 r.kd)∧W.cell? ⟨X7,1,none⟩=some (.int .i64 r.nm)∧W.cell? ⟨X7,2,none⟩=some (.string ⟨r.tx.toArray⟩)∧W.cell? ⟨X7,3,none⟩=some (.slice E r.ls.length e)∧W.cell? ⟨X7,4,none⟩=some (.slice E' r.ms.length e')∧W.cell? ⟨bP,oP,none⟩=some (.string ⟨s.toArray⟩)):=Lib.hid (fun W hW=>by
  have a:=HB3.out.keep (HF07.out.trans hW)
  have b:=HB5.out.keep (HF07.out.trans hW)
  have q:=HB7.out.keep hW
  exact ⟨a.cell 0,a.cell 1,a.cell 2,a.cell 3,a.cell 4,b.cell 0,b.cell 1,b.cell 2,b.cell 3,b.cell 4,q.cell 0,q.cell 1,q.cell 2,q.cell 3,q.cell 4,HNM.out W ((HF0.out.trans HF07.out).trans hW)⟩)
 go_upto_region 3 with fail
 refine OrdL.begin (x:=10) (fun W=>W.cell? ⟨X3,0,none⟩=some (.int .i64 v.kd)∧W.cell? ⟨X3,1,none⟩=some (.int .i64 v.nm)∧W.cell? ⟨X3,2,none⟩=some (.string ⟨v.tx.toArray⟩)∧W.cell? ⟨X3,3,none⟩=some (.slice B v.ls.length d)∧W.cell? ⟨X3,4,none⟩=some (.slice B' v.ms.length d')∧W.cell? ⟨X5,0,none⟩=some (.int .i64 x.kd)∧W.cell? ⟨X5,1,none⟩=some (.int .i64 x.nm)∧W.cell? ⟨X5,2,none⟩=some (.string ⟨x.tx.toArray⟩)∧W.cell? ⟨X5,3,none⟩=some (.slice C x.ls.length f)∧W.cell? ⟨X5,4,none⟩=some (.slice C' x.ms.length f')∧W.cell? ⟨X7,0,none⟩=some (.int .i64 r.kd)∧W.cell? ⟨X7,1,none⟩=some (.int .i64 r.nm)∧W.cell? ⟨X7,2,none⟩=some (.string ⟨r.tx.toArray⟩)∧W.cell? ⟨X7,3,none⟩=some (.slice E r.ls.length e)∧W.cell? ⟨X7,4,none⟩=some (.slice E' r.ms.length e')∧W.cell? ⟨bP,oP,none⟩=some (.string ⟨s.toArray⟩)) (by kernel_rfl) ?_ (fun hH=>?_)
 ·exact HS3.out _ (Fr.refl _).drew
 refine lq 0 [9] rfl hH ?_
 try simp only [Act.put,fl]
 refine lq 1 [2,3,9] rfl hH ?_
 try simp only [Act.put,fl]
 refine lq 2 [3,9] rfl hH ?_
 try simp only [Act.put,fl]
 refine lq 3 [9] rfl hH ?_
 try simp only [Act.put,fl]
 refine lq 4 [8,9] rfl hH ?_
 try simp only [Act.put,fl]
 refine lq 5 [6,8,9] rfl hH ?_
 try simp only [Act.put,fl]
 refine lq 6 [8,9] rfl hH ?_
 try simp only [Act.put,fl]
 refine lq 7 [8,9] rfl hH ?_
 try simp only [Act.put,fl]
 refine OrdL.one (i:=8) rfl (by kernel_rfl) (by rfl) (fun K hK=>?_)
 (go_simp;go_at_call 28;refine (HPU.out _ (Fr.refl W7).drew).mono ?_;rintro e w8 ⟨⟨D8,g8,rfl,hi⟩,hf⟩;have HI8:Hid (InV w8 (NeS O W7 w8) (JV.mapV li) (.agg #[.int .i64 6,.int .i64 0,.string ⟨#[]⟩,.slice none 0 0,(.slice D8 li.length g8)])):=Lib.hid hi;have HF8:Hid (Fr W7 w8):=Lib.hid ((Fr.refl W7).drew.trans hf);clear hi hf)
 refine hK.out _ _ (HS3.out _ HF8.out) (fun hH3=>?_)
 clear hK K
 try simp only [Act.put,fl]
 refine OrdL.one (i:=9) rfl (by kernel_rfl) (by rfl) (fun K hK=>?_)
 (go_simp;go_at_call 53;refine (HWI.out _ _ _ trivial HF8.out HI8.out).mono ?_;rintro e w9 ⟨⟨D,g,rfl,hi⟩,hf⟩;have HI5:=Lib.hid hi;have HF9:Hid (Fr w8 w9):=Lib.hid hf;have HF5:Hid (Fr W7 w9):=Lib.hid (HF8.out.trans hf);clear hi hf)
 refine hK.out _ _ (HS3.out _ HF5.out) (fun hH4=>?_)
 clear hK K
 try simp only [Act.put,fl]
 have hb5:=HB6.out.keep (HF07.out.trans HF5.out)
 obtain ⟨⟨q0,q1,q2,q3,q4⟩,qf0,qf1,qf2,qf3,qf4⟩:=box5 hb5
 have HBQ:=Lib.hid hb5
 clear hb5
 refine OrdL.last rfl (by kernel_rfl) (by kernel_rfl) (fun K hK=>?_)
 go_simp
 refine hK.out _ _ ?_
 clear hK K
 try simp only [Act.put,fl]
 go_wp2_with fail
 refine bodyPost_ret (results_cv (by rfl) rfl _ X6 (by rfl) _ _ _ _ _ (set5 HBQ.out)) rfl ?_
 have h59:InV w9 (NeS O W7 w9) (JV.mapV l) (.agg #[.int .i64 6,.int .i64 0,.string ⟨#[]⟩,.slice none 0 0,(.slice D l.length g)]):=HI5.out.more (fun b hb=>by
  rcases hb with hb | hb
  ·rcases hb with hb | hb
   ·exact .inl hb
   ·exact .inr ⟨hb.1,Nat.lt_of_lt_of_le hb.2 HF9.out.size⟩
  ·exact .inr ⟨Nat.le_trans HF8.out.size hb.1,hb.2⟩)
 exact ⟨⟨D,g,rfl,h59.put6 HZ.out ⟨HXX.out.1,Nat.lt_of_lt_of_le HXX.out.2.1 HF07.out.size⟩ HF5.out.size (HF0.out.trans HF07.out).size _ _ _ _ _⟩,st5_fr (HF0.out.trans (HF07.out.trans HF5.out)) HXX.out.1 _ _ _ _ _⟩
theorem put_is:∀ (ps:List (List UInt8)),ps≠[]→PutAt ps
 | [],h=>absurd rfl h
 | [s],_=>put_one s
 | s::t::ps,_=>put_more s t ps (put_is (t::ps) (by simp))
/- Chapter 09: Apply. -/

theorem Pc.putL_take {v:JV} {l:List Pc.Chg} {i:Nat} (hi:i<l.length):Pc.putL v (l.take (i+1))=Pc.put (Pc.putL v (l.take i)) l[i].1 l[i].2:=by
 unfold Pc.putL
 rw [List.take_succ_eq_append_getElem hi,List.foldl_append]
 rfl
def ApP (w:World):Option JV→Ending→World→Prop
 | none,e,w'=>e=.returned (.tuple #[.agg #[.int .i64 0,.int .i64 0,.string ⟨#[]⟩,.slice none 0 0,.slice none 0 0],.int .i64 90])∧Fr w w'
 | some x,e,w'=>(∃ (D:Option Addr) (g:Nat) (D':Option Addr) (g':Nat),e=.returned (.tuple #[.agg #[.int .i64 x.kd,.int .i64 x.nm,.string ⟨x.tx.toArray⟩,.slice D x.ls.length g,.slice D' x.ms.length g'],.int .i64 0])∧InV w' (Be w.heap.size w'.heap.size) x (vA x D g D' g'))∧Fr w w'
theorem papply_g (v p:JV) (B:Option Addr) (d:Nat) (B':Option Addr) (d':Nat) (C:Option Addr) (f:Nat) (C':Option Addr) (f':Nat) (w:World) (hv:InV w (Lo w.heap.size) v (vA v B d B' d')) (hp:InV w (Lo w.heap.size) p (vA p C f C' f')) (hn:∀ x∈p.ms,x.1.length≤4194304) (hlk:∀ l,Pc.chg p=some l→Pc.Likes p l) (hM:MxL w) (hnv:∀ l,Pc.chg p=some l→Pc.fits v l=true → ∀ k,Rd.nv (Pc.putL v (l.take k))≤1048576):
  Calls Tryz.prog 11 #[.agg #[.int .i64 v.kd,.int .i64 v.nm,.string ⟨v.tx.toArray⟩,.slice B v.ls.length d,.slice B' v.ms.length d'],.agg #[.int .i64 p.kd,.int .i64 p.nm,.string ⟨p.tx.toArray⟩,.slice C p.ls.length f,.slice C' p.ms.length f']] w (ApP w (Pc.apply v p)):=by
 obtain ⟨R,hR⟩:∃ R,Pc.apply v p=R:=⟨_,rfl⟩
 rw [hR]
 have HCH:Hid (∀ W,Fr w W→Calls Tryz.prog 26 #[.agg #[.int .i64 p.kd,.int .i64 p.nm,.string ⟨p.tx.toArray⟩,.slice C p.ls.length f,.slice C' p.ms.length f']] W (ChgP (Lo w.heap.size) W (Pc.chg p))):=Lib.hid (fun W hW=>changes_is p C f C' f' W (Lo w.heap.size) (fun b hb=>Nat.lt_of_lt_of_le hb hW.size) (hp.keep (Nat.le_refl _) hW) hn (hM.keep hW))
 have HV:=Lib.hid hv
 cases hc:Pc.chg p with
 | none=>
  have hrn:Hid (R=none):=Lib.hid (by rw [← hR];unfold Pc.apply;rw [hc])
  rw [hc] at HCH
  clear hv hp hlk hM hn hc hR hnv
  go_enter Tryz.func11,Tryz.ntmps11
  go_upto_region 1 with fail
  have hb1:Blk (((w.alloc (.cells #[.int .i64 v.kd,.int .i64 v.nm,.string ⟨v.tx.toArray⟩,.slice B v.ls.length d,.slice B' v.ms.length d'] 25)).alloc (.cells #[.int .i64 p.kd,.int .i64 p.nm,.string ⟨p.tx.toArray⟩,.slice C p.ls.length f,.slice C' p.ms.length f'] 25)).alloc (.cells #[.int .i64 0,.int .i64 0,.string ⟨#[]⟩,.slice none 0 0,.slice none 0 0] 25)) w.heap.size #[.int .i64 v.kd,.int .i64 v.nm,.string ⟨v.tx.toArray⟩,.slice B v.ls.length d,.slice B' v.ms.length d'] 25:=((Blk.made w _ _).keep ((Fr.refl _).alloc _)).keep ((Fr.refl _).alloc _)
  have hb2:Blk (((w.alloc (.cells #[.int .i64 v.kd,.int .i64 v.nm,.string ⟨v.tx.toArray⟩,.slice B v.ls.length d,.slice B' v.ms.length d'] 25)).alloc (.cells #[.int .i64 p.kd,.int .i64 p.nm,.string ⟨p.tx.toArray⟩,.slice C p.ls.length f,.slice C' p.ms.length f'] 25)).alloc (.cells #[.int .i64 0,.int .i64 0,.string ⟨#[]⟩,.slice none 0 0,.slice none 0 0] 25)) (w.heap.size+1) #[.int .i64 p.kd,.int .i64 p.nm,.string ⟨p.tx.toArray⟩,.slice C p.ls.length f,.slice C' p.ms.length f'] 25:=(boxz (Blk.made (w.alloc _) _ _)).keep ((Fr.refl _).alloc _)
  have hb4:Blk (((w.alloc (.cells #[.int .i64 v.kd,.int .i64 v.nm,.string ⟨v.tx.toArray⟩,.slice B v.ls.length d,.slice B' v.ms.length d'] 25)).alloc (.cells #[.int .i64 p.kd,.int .i64 p.nm,.string ⟨p.tx.toArray⟩,.slice C p.ls.length f,.slice C' p.ms.length f'] 25)).alloc (.cells #[.int .i64 0,.int .i64 0,.string ⟨#[]⟩,.slice none 0 0,.slice none 0 0] 25)) (w.heap.size+1+1) #[.int .i64 0,.int .i64 0,.string ⟨#[]⟩,.slice none 0 0,.slice none 0 0] 25:=boxz2 (Blk.made ((w.alloc _).alloc _) _ _)
  have hf0:Fr w (((w.alloc (.cells #[.int .i64 v.kd,.int .i64 v.nm,.string ⟨v.tx.toArray⟩,.slice B v.ls.length d,.slice B' v.ms.length d'] 25)).alloc (.cells #[.int .i64 p.kd,.int .i64 p.nm,.string ⟨p.tx.toArray⟩,.slice C p.ls.length f,.slice C' p.ms.length f'] 25)).alloc (.cells #[.int .i64 0,.int .i64 0,.string ⟨#[]⟩,.slice none 0 0,.slice none 0 0] 25)):=(((Fr.refl w).alloc _).alloc _).alloc _
  generalize (((w.alloc (.cells #[.int .i64 v.kd,.int .i64 v.nm,.string ⟨v.tx.toArray⟩,.slice B v.ls.length d,.slice B' v.ms.length d'] 25)).alloc (.cells #[.int .i64 p.kd,.int .i64 p.nm,.string ⟨p.tx.toArray⟩,.slice C p.ls.length f,.slice C' p.ms.length f'] 25)).alloc (.cells #[.int .i64 0,.int .i64 0,.string ⟨#[]⟩,.slice none 0 0,.slice none 0 0] 25))=W0 at hb1 hb2 hb4 hf0 ⊢
  have HXX:Hid (w.heap.size<w.heap.size+1+1∧w.heap.size+1+1<W0.heap.size):=Lib.hid ⟨by omega,hb4.lt⟩
  generalize w.heap.size+1+1=X4 at hb4 HXX ⊢
  generalize w.heap.size+1=X2 at hb2 ⊢
  obtain ⟨X1,hX1⟩:∃ X,w.heap.size=X:=⟨_,rfl⟩
  have HX1:=Lib.hid hX1
  rw [hX1] at hb1 HXX ⊢
  clear hX1
  have HB1:=Lib.hid hb1
  have HB2:=Lib.hid hb2
  have HB4:=Lib.hid hb4
  have HF0:=Lib.hid hf0
  obtain ⟨⟨y0,y1,y2,y3,y4⟩,_⟩:=box5 hb2
  clear hb1 hb2 hb4 hf0
  go_wp2_with (go_at_call 26;refine (HCH.out _ HF0.out).mono ?_;rintro e w1 ⟨rfl,hf⟩;have HF9:Hid (Fr w w1):=Lib.hid (HF0.out.trans hf);have hb:=HB4.out.keep hf;obtain ⟨⟨x0,x1,x2,x3,x4⟩,g0,g1,g2,g3,g4⟩:=box5 hb;have HB9:=Lib.hid hb;clear hf hb)
  refine bodyPost_ret (results_cs (by rfl) rfl _ X4 (by rfl) (by rfl) _ _ _ _ _ (set5 HB9.out)) rfl ?_
  rw [hrn.out]
  exact ⟨rfl,HF9.out.put5 (by have:=HXX.out;have:=HX1.out;omega) _ _ _ _ _⟩
 | some l=>
  have hk:=hlk l hc
  obtain ⟨bf,hbf⟩:∃ bf,Pc.fits v l=bf:=⟨_,rfl⟩
  have HFI:Hid (∀ W A c,Fr w W→ChC W A l→Calls Tryz.prog 27 #[.agg #[.int .i64 v.kd,.int .i64 v.nm,.string ⟨v.tx.toArray⟩,.slice B v.ls.length d,.slice B' v.ms.length d'],.slice A l.length c] W fun e w'=>e=.returned (.bool bf)∧Fr W w'):=Lib.hid (fun W A c hW hA=>by
   rw [← hbf]
   exact pfits_is v B d B' d' l A c W ((HV.out.keep (Nat.le_refl _) hW).lo hW.size) hA (Nat.le_trans hk.len (by omega)) (fun x hx=>⟨hk.short x hx,hk.ne x hx⟩))
  have hre:R=if bf then some (Pc.putL v l) else none:=by rw [← hR,← hbf];unfold Pc.apply;rw [hc]
  have HNV:Hid (bf=true → ∀ k,Rd.nv (Pc.putL v (l.take k))≤1048576):=Lib.hid (fun h=>hnv l hc (hbf.trans h))
  have HLK:Hid (l.length≤400 ∧ ∀ i (h:i<l.length),l[i].1≠[]∧l[i].1.length≤1048577 ∧ ∀ s∈l[i].1,s.length≤140737488351232):=Lib.hid ⟨hk.len,fun i h=>⟨hk.ne _ (List.getElem_mem h),hk.short _ (List.getElem_mem h),fun s hs=>by have:=hk.texts _ (List.getElem_mem h) s hs;omega⟩⟩
  rw [hc] at HCH
  clear hv hp hlk hM hn hc hR hk hbf hnv
  cases bf with
  | false=>
   have hrn:Hid (R=none):=Lib.hid hre
   clear hre
   go_enter Tryz.func11,Tryz.ntmps11
   go_upto_region 1 with fail
   have hb1:Blk (((w.alloc (.cells #[.int .i64 v.kd,.int .i64 v.nm,.string ⟨v.tx.toArray⟩,.slice B v.ls.length d,.slice B' v.ms.length d'] 25)).alloc (.cells #[.int .i64 p.kd,.int .i64 p.nm,.string ⟨p.tx.toArray⟩,.slice C p.ls.length f,.slice C' p.ms.length f'] 25)).alloc (.cells #[.int .i64 0,.int .i64 0,.string ⟨#[]⟩,.slice none 0 0,.slice none 0 0] 25)) w.heap.size #[.int .i64 v.kd,.int .i64 v.nm,.string ⟨v.tx.toArray⟩,.slice B v.ls.length d,.slice B' v.ms.length d'] 25:=((Blk.made w _ _).keep ((Fr.refl _).alloc _)).keep ((Fr.refl _).alloc _)
   have hb2:Blk (((w.alloc (.cells #[.int .i64 v.kd,.int .i64 v.nm,.string ⟨v.tx.toArray⟩,.slice B v.ls.length d,.slice B' v.ms.length d'] 25)).alloc (.cells #[.int .i64 p.kd,.int .i64 p.nm,.string ⟨p.tx.toArray⟩,.slice C p.ls.length f,.slice C' p.ms.length f'] 25)).alloc (.cells #[.int .i64 0,.int .i64 0,.string ⟨#[]⟩,.slice none 0 0,.slice none 0 0] 25)) (w.heap.size+1) #[.int .i64 p.kd,.int .i64 p.nm,.string ⟨p.tx.toArray⟩,.slice C p.ls.length f,.slice C' p.ms.length f'] 25:=(boxz (Blk.made (w.alloc _) _ _)).keep ((Fr.refl _).alloc _)
   have hb4:Blk (((w.alloc (.cells #[.int .i64 v.kd,.int .i64 v.nm,.string ⟨v.tx.toArray⟩,.slice B v.ls.length d,.slice B' v.ms.length d'] 25)).alloc (.cells #[.int .i64 p.kd,.int .i64 p.nm,.string ⟨p.tx.toArray⟩,.slice C p.ls.length f,.slice C' p.ms.length f'] 25)).alloc (.cells #[.int .i64 0,.int .i64 0,.string ⟨#[]⟩,.slice none 0 0,.slice none 0 0] 25)) (w.heap.size+1+1) #[.int .i64 0,.int .i64 0,.string ⟨#[]⟩,.slice none 0 0,.slice none 0 0] 25:=boxz2 (Blk.made ((w.alloc _).alloc _) _ _)
   have hf0:Fr w (((w.alloc (.cells #[.int .i64 v.kd,.int .i64 v.nm,.string ⟨v.tx.toArray⟩,.slice B v.ls.length d,.slice B' v.ms.length d'] 25)).alloc (.cells #[.int .i64 p.kd,.int .i64 p.nm,.string ⟨p.tx.toArray⟩,.slice C p.ls.length f,.slice C' p.ms.length f'] 25)).alloc (.cells #[.int .i64 0,.int .i64 0,.string ⟨#[]⟩,.slice none 0 0,.slice none 0 0] 25)):=(((Fr.refl w).alloc _).alloc _).alloc _
   generalize (((w.alloc (.cells #[.int .i64 v.kd,.int .i64 v.nm,.string ⟨v.tx.toArray⟩,.slice B v.ls.length d,.slice B' v.ms.length d'] 25)).alloc (.cells #[.int .i64 p.kd,.int .i64 p.nm,.string ⟨p.tx.toArray⟩,.slice C p.ls.length f,.slice C' p.ms.length f'] 25)).alloc (.cells #[.int .i64 0,.int .i64 0,.string ⟨#[]⟩,.slice none 0 0,.slice none 0 0] 25))=W0 at hb1 hb2 hb4 hf0 ⊢
   have HXX:Hid (w.heap.size<w.heap.size+1+1∧w.heap.size+1+1<W0.heap.size):=Lib.hid ⟨by omega,hb4.lt⟩
   generalize w.heap.size+1+1=X4 at hb4 HXX ⊢
   generalize w.heap.size+1=X2 at hb2 ⊢
   obtain ⟨X1,hX1⟩:∃ X,w.heap.size=X:=⟨_,rfl⟩
   have HX1:=Lib.hid hX1
   rw [hX1] at hb1 HXX ⊢
   clear hX1
   have HB1:=Lib.hid hb1
   have HB2:=Lib.hid hb2
   have HB4:=Lib.hid hb4
   have HF0:=Lib.hid hf0
   obtain ⟨⟨y0,y1,y2,y3,y4⟩,_⟩:=box5 hb2
   clear hb1 hb2 hb4 hf0
   go_upto_region 2 with (go_at_call 26;refine (HCH.out _ HF0.out).mono ?_;rintro e w1 ⟨⟨A,c,rfl,hA⟩,hf⟩;have HF1:=Lib.hid hf;have HA:=Lib.hid (hA.toC (fun b hb=>by rcases hb with hb | hb;exact Nat.lt_of_lt_of_le hb (HF0.out.trans hf).size;exact hb.2));clear hf hA)
   obtain ⟨⟨q0,q1,q2,q3,q4⟩,_⟩:=box5 (HB1.out.keep HF1.out)
   clear y0 y1 y2 y3 y4
   go_wp2_with (go_at_call 27;refine (HFI.out _ A c (HF0.out.trans HF1.out) HA.out).mono ?_;rintro e w2 ⟨rfl,hf⟩;have HF9:Hid (Fr w w2):=Lib.hid ((HF0.out.trans HF1.out).trans hf);have hb:=HB4.out.keep (HF1.out.trans hf);obtain ⟨⟨x0,x1,x2,x3,x4⟩,g0,g1,g2,g3,g4⟩:=box5 hb;have HB9:=Lib.hid hb;clear hf hb)
   refine bodyPost_ret (results_cs (by rfl) rfl _ X4 (by rfl) (by rfl) _ _ _ _ _ (set5 HB9.out)) rfl ?_
   rw [hrn.out]
   exact ⟨rfl,HF9.out.put5 (by have:=HXX.out;have:=HX1.out;omega) _ _ _ _ _⟩
  | true=>
   have HRE:Hid (R=some (Pc.putL v l)):=Lib.hid hre
   have HNV2:Hid (∀ k,Rd.nv (Pc.putL v (l.take k))≤1048576):=Lib.hid (HNV.out rfl)
   clear hre HNV
   go_enter Tryz.func11,Tryz.ntmps11
   go_upto_region 1 with fail
   have hb1:Blk (((w.alloc (.cells #[.int .i64 v.kd,.int .i64 v.nm,.string ⟨v.tx.toArray⟩,.slice B v.ls.length d,.slice B' v.ms.length d'] 25)).alloc (.cells #[.int .i64 p.kd,.int .i64 p.nm,.string ⟨p.tx.toArray⟩,.slice C p.ls.length f,.slice C' p.ms.length f'] 25)).alloc (.cells #[.int .i64 0,.int .i64 0,.string ⟨#[]⟩,.slice none 0 0,.slice none 0 0] 25)) w.heap.size #[.int .i64 v.kd,.int .i64 v.nm,.string ⟨v.tx.toArray⟩,.slice B v.ls.length d,.slice B' v.ms.length d'] 25:=((Blk.made w _ _).keep ((Fr.refl _).alloc _)).keep ((Fr.refl _).alloc _)
   have hb2:Blk (((w.alloc (.cells #[.int .i64 v.kd,.int .i64 v.nm,.string ⟨v.tx.toArray⟩,.slice B v.ls.length d,.slice B' v.ms.length d'] 25)).alloc (.cells #[.int .i64 p.kd,.int .i64 p.nm,.string ⟨p.tx.toArray⟩,.slice C p.ls.length f,.slice C' p.ms.length f'] 25)).alloc (.cells #[.int .i64 0,.int .i64 0,.string ⟨#[]⟩,.slice none 0 0,.slice none 0 0] 25)) (w.heap.size+1) #[.int .i64 p.kd,.int .i64 p.nm,.string ⟨p.tx.toArray⟩,.slice C p.ls.length f,.slice C' p.ms.length f'] 25:=(boxz (Blk.made (w.alloc _) _ _)).keep ((Fr.refl _).alloc _)
   have hb4:Blk (((w.alloc (.cells #[.int .i64 v.kd,.int .i64 v.nm,.string ⟨v.tx.toArray⟩,.slice B v.ls.length d,.slice B' v.ms.length d'] 25)).alloc (.cells #[.int .i64 p.kd,.int .i64 p.nm,.string ⟨p.tx.toArray⟩,.slice C p.ls.length f,.slice C' p.ms.length f'] 25)).alloc (.cells #[.int .i64 0,.int .i64 0,.string ⟨#[]⟩,.slice none 0 0,.slice none 0 0] 25)) (w.heap.size+1+1) #[.int .i64 0,.int .i64 0,.string ⟨#[]⟩,.slice none 0 0,.slice none 0 0] 25:=boxz2 (Blk.made ((w.alloc _).alloc _) _ _)
   have hf0:Fr w (((w.alloc (.cells #[.int .i64 v.kd,.int .i64 v.nm,.string ⟨v.tx.toArray⟩,.slice B v.ls.length d,.slice B' v.ms.length d'] 25)).alloc (.cells #[.int .i64 p.kd,.int .i64 p.nm,.string ⟨p.tx.toArray⟩,.slice C p.ls.length f,.slice C' p.ms.length f'] 25)).alloc (.cells #[.int .i64 0,.int .i64 0,.string ⟨#[]⟩,.slice none 0 0,.slice none 0 0] 25)):=(((Fr.refl w).alloc _).alloc _).alloc _
   generalize (((w.alloc (.cells #[.int .i64 v.kd,.int .i64 v.nm,.string ⟨v.tx.toArray⟩,.slice B v.ls.length d,.slice B' v.ms.length d'] 25)).alloc (.cells #[.int .i64 p.kd,.int .i64 p.nm,.string ⟨p.tx.toArray⟩,.slice C p.ls.length f,.slice C' p.ms.length f'] 25)).alloc (.cells #[.int .i64 0,.int .i64 0,.string ⟨#[]⟩,.slice none 0 0,.slice none 0 0] 25))=W0 at hb1 hb2 hb4 hf0 ⊢
   have HXX:Hid (w.heap.size<w.heap.size+1+1∧w.heap.size+1+1<W0.heap.size):=Lib.hid ⟨by omega,hb4.lt⟩
   generalize w.heap.size+1+1=X4 at hb4 HXX ⊢
   generalize w.heap.size+1=X2 at hb2 ⊢
   obtain ⟨X1,hX1⟩:∃ X,w.heap.size=X:=⟨_,rfl⟩
   have HX1:=Lib.hid hX1
   rw [hX1] at hb1 HXX ⊢
   clear hX1
   have HB1:=Lib.hid hb1
   have HB2:=Lib.hid hb2
   have HB4:=Lib.hid hb4
   have HF0:=Lib.hid hf0
   obtain ⟨⟨y0,y1,y2,y3,y4⟩,_⟩:=box5 hb2
   clear hb1 hb2 hb4 hf0
   go_upto_region 2 with (go_at_call 26;refine (HCH.out _ HF0.out).mono ?_;rintro e w1 ⟨⟨A,c,rfl,hA⟩,hf⟩;have HF1:=Lib.hid hf;have HA:=Lib.hid hA;clear hf hA)
   obtain ⟨⟨q0,q1,q2,q3,q4⟩,_⟩:=box5 (HB1.out.keep HF1.out)
   clear y0 y1 y2 y3 y4
   have HAC:Hid (ChC w1 A l):=Lib.hid (HA.out.toC (fun b hb=>by rcases hb with hb | hb;exact Nat.lt_of_lt_of_le hb (HF0.out.trans HF1.out).size;exact hb.2))
   go_upto_region 4 with (go_at_call 27;refine (HFI.out _ A c (HF0.out.trans HF1.out) HAC.out).mono ?_;rintro e w2 ⟨rfl,hf⟩;have HF2:=Lib.hid hf;clear hf)
   clear q0 q1 q2 q3 q4
   have HF12:=Lib.hid (HF1.out.trans HF2.out)
   have HFW:=Lib.hid (HF0.out.trans HF12.out)
   have HXW:Hid (X1<X4∧X4<w2.heap.size):=Lib.hid ⟨HXX.out.1,Nat.lt_of_lt_of_le HXX.out.2 HF12.out.size⟩
   have HS2:Hid (ChS w2 (fun b=>b<w2.heap.size∧b≠X1) A l):=Lib.hid (HA.out.map (fun b hb=>by
    have h1:=HX1.out
    have h2:=HXX.out
    have h3:=HXW.out
    have h4:=HF2.out.size
    rcases hb with hb | hb
    ·have:b<w.heap.size:=hb
     exact ⟨by omega,by omega⟩
    ·have:=hb.1
     have:=hb.2
     exact ⟨by omega,by omega⟩) (fun b o hb=>HF2.out.cell (by
    rcases hb with hb | hb
    ·exact Nat.lt_of_lt_of_le hb (HF0.out.trans HF1.out).size
    ·exact hb.2)))
   have HB12:=Lib.hid (HB1.out.keep HF12.out)
   have HB42:=Lib.hid (HB4.out.keep HF12.out)
   have HI2:Hid (InV w2 (fun b=>b<w2.heap.size∧b≠X1) v (vA v B d B' d')):=Lib.hid ((HV.out.keep (Nat.le_refl _) HFW.out).more (fun b hb=>by
    have:b<w.heap.size:=hb
    have h1:=HX1.out
    have h3:=HXW.out
    exact ⟨by omega,by omega⟩))
   have HFW2:Hid (Fr w w2):=HFW
   clear HA HAC HB1 HB2 HB4 HF0 HF1 HF2 HF12 HFW HFI HCH HV HXX
   obtain ⟨W2,hW2⟩:∃ W,W=w2:=⟨w2,rfl⟩
   subst hW2
   have hl400:=HLK.out.1
   have hl':(l.length:Int)≤400:=by omega
   go_wp2_with fail
   go_loopw [26] (fun j wr=>∃ (i:Nat) (x:JV) (D:Option Addr) (g:Nat) (D':Option Addr) (g':Nat),i≤l.length∧j=.int .i64 i∧Hid (x=Pc.putL v (l.take i))∧Hid (FrX X1 W2 wr)∧Hid (Blk wr X1 #[.int .i64 x.kd,.int .i64 x.nm,.string ⟨x.tx.toArray⟩,.slice D x.ls.length g,.slice D' x.ms.length g'] 25)∧Hid (InV wr (fun b=>b<wr.heap.size∧b≠X1) x (vA x D g D' g'))) (fun j _=>l.length - (intOf j).toNat)
   case atStart=>exact ⟨0,v,B,d,B',d',by omega,rfl,Lib.hid rfl,Lib.hid (FrX.refl X1 W2),HB12,HI2⟩
   case round=>
    obtain ⟨i,x,D,g,D',g',hi,rfl,hX,hF,hB,hI⟩:=hrel
    have hsz:=hF.out.size
    by_cases hlt:i<l.length
    ·have hlt':(i:Int)<(l.length:Int):=by omega
     obtain ⟨hne,hps2,htx⟩:=HLK.out.2 i hlt
     have hnx:Rd.nv x≤1048576:=by rw [hX.out];exact HNV2.out i
     have hstep:Pc.put x l[i].1 l[i].2=Pc.putL v (l.take (i+1)):=by rw [Pc.putL_take hlt,hX.out]
     obtain ⟨b1,o1,P,c1,E,e,E',e',rfl,hb1,m0,hcc1,hpp,⟨m1,m2,m3,m4,m5⟩,hui⟩:=(HS2.out.map (S':=fun b=>b<wr.heap.size∧b≠X1) (fun b hb=>⟨Nat.lt_of_lt_of_le hb.1 hsz,hb.2⟩) (fun b o hb=>hF.out.cell hb.1 hb.2)) i hlt
     obtain ⟨ps,hpe⟩:∃ ps,l[i].1=ps:=⟨_,rfl⟩
     obtain ⟨u,hue⟩:∃ u,l[i].2=u:=⟨_,rfl⟩
     rw [hpe] at m0 hpp hcc1 hne hps2 htx hstep
     rw [hue] at m1 m2 m3 m4 m5 hui hstep
     obtain ⟨lm,hlm⟩:=Pc.put_map x u ps hne
     have HST:Hid (Pc.putL v (l.take (i+1))=JV.mapV lm):=Lib.hid (by rw [← hstep];exact hlm)
     have HPT:Hid (∀ W,Fr wr W→Calls Tryz.prog 28 #[.agg #[.int .i64 x.kd,.int .i64 x.nm,.string ⟨x.tx.toArray⟩,.slice D x.ls.length g,.slice D' x.ms.length g'],.slice P ps.length c1,.agg #[.int .i64 u.kd,.int .i64 u.nm,.string ⟨u.tx.toArray⟩,.slice E u.ls.length e,.slice E' u.ms.length e']] W fun en w'=>(∃ (D9:Option Addr) (g9:Nat),en=.returned (.agg #[.int .i64 6,.int .i64 0,.string ⟨#[]⟩,.slice none 0 0,.slice D9 lm.length g9])∧InV w' (NeS (fun b=>b<wr.heap.size∧b≠X1) W w') (JV.mapV lm) (.agg #[.int .i64 6,.int .i64 0,.string ⟨#[]⟩,.slice none 0 0,.slice D9 lm.length g9]))∧Fr W w'):=Lib.hid (fun W hW=>
      put_is ps hne x u D g D' g' E e E' e' P c1 W (fun b=>b<wr.heap.size∧b≠X1) (fun b hb=>Nat.lt_of_lt_of_le hb.1 hW.size) (hI.out.keepS (fun b hb=>hb.1) hW) (hui.keepS (fun b hb=>hb.1) hW) ((hpp.toC (fun b hb=>hb.1)).keep hW) hcc1.1 hcc1.2 htx hps2 hnx lm hlm)
     have HL1:Hid (X1<wr.heap.size∧W2.heap.size≤wr.heap.size):=Lib.hid ⟨hB.out.lt,hsz⟩
     clear hb1 hcc1 hpp hui hpe hue hlm hstep hne hps2 htx hnx hsz
     go_upto_region 7 with fail
     have hb6:=Blk.made wr #[.slice P ps.length c1,.int .i64 u.kd,.int .i64 u.nm,.string ⟨u.tx.toArray⟩,.slice E u.ls.length e,.slice E' u.ms.length e'] 57
     have hf6:Fr wr (wr.alloc (.cells #[.slice P ps.length c1,.int .i64 u.kd,.int .i64 u.nm,.string ⟨u.tx.toArray⟩,.slice E u.ls.length e,.slice E' u.ms.length e'] 57)):=(Fr.refl wr).alloc _
     generalize (wr.alloc (.cells #[.slice P ps.length c1,.int .i64 u.kd,.int .i64 u.nm,.string ⟨u.tx.toArray⟩,.slice E u.ls.length e,.slice E' u.ms.length e'] 57))=W6 at hb6 hf6 ⊢
     have HL2:Hid (wr.heap.size≤W6.heap.size):=Lib.hid hf6.size
     generalize wr.heap.size=X6 at hb6 HL1 HL2 HPT ⊢
     obtain ⟨⟨z0,z1,z2,z3,z4,z5⟩,_⟩:=box6 hb6
     obtain ⟨⟨y0,y1,y2,y3,y4⟩,_⟩:=box5 (hB.out.keep hf6)
     have HF6:=Lib.hid hf6
     clear hb6 hf6 m0 m1 m2 m3 m4 m5
     go_wp2_with (go_at_call 28;refine (HPT.out _ HF6.out).mono ?_;rintro en w8 ⟨⟨D9,g9,rfl,hi9⟩,hf⟩;have HI9:=Lib.hid hi9;have HF8:Hid (Fr W6 w8):=Lib.hid hf;have hb:=hB.out.keep (HF6.out.trans hf);obtain ⟨⟨q0,q1,q2,q3,q4⟩,qf0,qf1,qf2,qf3,qf4⟩:=box5 hb;have HB8:=Lib.hid hb;clear hf hi9 hb)
     have h68:=HF8.out.size
     have h1:=HL1.out.1
     have h2:=HL2.out
     exact ⟨⟨i+1,JV.mapV lm,none,0,D9,g9,by omega,by go_num,Lib.hid HST.out.symm,Lib.hid ((hF.out.fr (HF6.out.trans HF8.out)).trans (st5_frx w8 X1 _ _ _ _ _)),Lib.hid (set5 HB8.out),Lib.hid (HI9.out.map (fun b hb=>by
      rcases hb with hb | hb
      ·have:=hb.1
       exact ⟨Nat.lt_of_lt_of_le (by omega) (st5_frx w8 X1 _ _ _ _ _).size,hb.2⟩
      ·have:=hb.1
       have:=hb.2
       exact ⟨Nat.lt_of_lt_of_le (by omega) (st5_frx w8 X1 _ _ _ _ _).size,by omega⟩) (fun b o hb=>(st5_frx w8 X1 _ _ _ _ _).cell (by
      rcases hb with hb | hb
      ·have:=hb.1
       omega
      ·exact hb.2) (by
      rcases hb with hb | hb
      ·exact hb.2
      ·have:=hb.1
       omega)))⟩,by simp [intOf];omega⟩
    ·obtain rfl:i=l.length:=by omega
     have hxe:x=Pc.putL v l:=by rw [hX.out,List.take_length]
     have hnx:Rd.nv x≤1048576:=by rw [hX.out];exact HNV2.out _
     have HRX:Hid (R=some x):=Lib.hid (by rw [hxe];exact HRE.out)
     have HCP:Hid (∀ W,Fr wr W→Calls Tryz.prog 17 #[.agg #[.int .i64 x.kd,.int .i64 x.nm,.string ⟨x.tx.toArray⟩,.slice D x.ls.length g,.slice D' x.ms.length g']] W fun en w'=>(∃ (E:Option Addr) (e:Nat) (E':Option Addr) (e':Nat),en=.returned (.agg #[.int .i64 x.kd,.int .i64 x.nm,.string ⟨x.tx.toArray⟩,.slice E x.ls.length e,.slice E' x.ms.length e'])∧InV w' (Be W.heap.size w'.heap.size) x (vA x E e E' e'))∧Fr W w'):=Lib.hid (fun W hW=>copy_is x (vA x D g D' g') W ((hI.out.keepS (fun b hb=>hb.1) hW).more (fun b hb=>Nat.lt_of_lt_of_le hb.1 hW.size)) hnx)
     have hfr:Fr w wr:=Fr.thenY HFW2.out (show w.heap.size≤X1 by rw [HX1.out];exact Nat.le_refl _) (by have:=HXW.out;omega) hF.out
     have HFR:=Lib.hid hfr
     have HB4R:Hid (Blk wr X4 #[.int .i64 0,.int .i64 0,.string ⟨#[]⟩,.slice none 0 0,.slice none 0 0] 25):=Lib.hid (HB42.out.frx hF.out (show X4≠X1 by have:=HXW.out;omega))
     have HXR:Hid (w.heap.size≤X4∧X4<wr.heap.size):=Lib.hid ⟨by have:=HX1.out;have:=HXW.out;omega,HB4R.out.lt⟩
     obtain ⟨⟨y0,y1,y2,y3,y4⟩,_⟩:=box5 hB.out
     clear hxe hnx hfr
     go_wp2_with (go_at_call 17;refine (HCP.out _ (Fr.refl wr)).mono ?_;rintro en w9 ⟨⟨E,e,E',e',rfl,hi9⟩,hf⟩;have HI9:=Lib.hid hi9;have HF9:Hid (Fr wr w9):=Lib.hid hf;have hb:=HB4R.out.keep hf;obtain ⟨⟨q0,q1,q2,q3,q4⟩,qf0,qf1,qf2,qf3,qf4⟩:=box5 hb;have HB9:=Lib.hid hb;clear hf hi9 hb)
     refine bodyPost_ret (results_cs (by rfl) rfl _ X4 (by rfl) (by rfl) _ _ _ _ _ (set5 HB9.out)) rfl ?_
     rw [HRX.out]
     have h1:=HXR.out
     have h2:=HFR.out.size
     refine ⟨⟨E,e,E',e',rfl,?_⟩,(HFR.out.trans HF9.out).put5 (by omega) _ _ _ _ _⟩
     exact HI9.out.map (fun b hb=>⟨by have:=hb.1;omega,Nat.lt_of_lt_of_le hb.2 (st5_frx w9 X4 _ _ _ _ _).size⟩) (fun b o hb=>(st5_frx w9 X4 _ _ _ _ _).cell hb.2 (by have:=hb.1;omega))
theorem papply_is (v p:JV) (B:Option Addr) (d:Nat) (B':Option Addr) (d':Nat) (C:Option Addr) (f:Nat) (C':Option Addr) (f':Nat) (w:World) (hv:InV w (Lo w.heap.size) v (vA v B d B' d')) (hp:InV w (Lo w.heap.size) p (vA p C f C' f')) (hb:JV.bulk p≤1048576) (hM:MxL w) (hnv:∀ l,Pc.chg p=some l→Pc.fits v l=true → ∀ k,Rd.nv (Pc.putL v (l.take k))≤1048576):
  Calls Tryz.prog 11 #[.agg #[.int .i64 v.kd,.int .i64 v.nm,.string ⟨v.tx.toArray⟩,.slice B v.ls.length d,.slice B' v.ms.length d'],.agg #[.int .i64 p.kd,.int .i64 p.nm,.string ⟨p.tx.toArray⟩,.slice C p.ls.length f,.slice C' p.ms.length f']] w (ApP w (Pc.apply v p)):=
 papply_g v p B d B' d' C f C' f' w hv hp (fun x hx=>by have:=(Pc.bulk_mem hx).1;omega) (fun l hc=>Pc.likes hc hb) hM hnv
end Go.Proofs.YtlmcfhokfiibkaaGreatDoor
