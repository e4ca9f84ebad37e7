/- Chapter 09: the document's through. -/
import Derived.Test.YtlmcfhokfiibkaaGreatDoorPaO
namespace Go.Proofs.YtlmcfhokfiibkaaGreatDoor
set_option maxRecDepth 100000
set_option maxHeartbeats 4000000
set_option linter.unusedVariables false
set_option linter.unusedSimpArgs false
open Go.RowKit

def RThr (ps:List (List UInt8)):Prop:=∀ (v:JV) (B:Option Addr) (d:Nat) (B':Option Addr) (d':Nat) (A:Option Addr) (c:Nat) (w:World),InV w (Lo w.heap.size) v (vA v B d B' d')→PsC w A ps→ps.length≤c→c≤9223372036854775807→ps.length≤1048577 →
 Calls Tryz.prog 31 #[.agg #[.int .i64 v.kd,.int .i64 v.nm,.string ⟨v.tx.toArray⟩,.slice B v.ls.length d,.slice B' v.ms.length d'],.slice A ps.length c] w fun e w'=>e=.returned (.bool (Pc.leads v ps))∧Fr w w'
theorem rthr_one (s:List UInt8):RThr [s]:=by
 intro v B d B' d' A c w hv hp hc hc2 hl
 show Calls Tryz.prog 31 #[.agg #[.int .i64 v.kd,.int .i64 v.nm,.string ⟨v.tx.toArray⟩,.slice B v.ls.length d,.slice B' v.ms.length d'],.slice A 1 c] w fun e w'=>e=.returned (.bool (v.kd == 6))∧Fr w w'
 by_cases h6:v.kd=6
 ·have q6:(v.kd != 6)=false:=by rw [h6];rfl
  have q7:(v.kd == 6)=true:=by rw [h6];rfl
  rw [q7]
  clear hv hp h6
  go_enter Tryz.func31,Tryz.ntmps31
  go_wp2_with fail
  go_ret
  exact ⟨rfl,(Fr.refl w).alloc _⟩
 ·obtain ⟨q7,q6⟩:=ikind h6
  rw [q7]
  clear hv hp h6
  go_enter Tryz.func31,Tryz.ntmps31
  go_wp2_with fail
  go_ret
  exact ⟨rfl,(Fr.refl w).alloc _⟩
theorem rthr_more (s t:List UInt8) (ps:List (List UInt8)) (ih:RThr (t::ps)):RThr (s::t::ps):=by
 intro v B d B' d' A c w hv hp hc hc2 hl2
 by_cases h6:v.kd=6
 rotate_left
 ·obtain ⟨q7,q6⟩:=ikind h6
  have hr:Pc.leads v (s::t::ps)=false:=by
   unfold Pc.leads
   rw [q7];rfl
  rw [hr]
  clear hv hp h6 hr hc ih
  go_enter Tryz.func31,Tryz.ntmps31
  go_wp2_with fail
  go_ret
  exact ⟨rfl,(Fr.refl w).alloc _⟩
 have q6:(v.kd != 6)=false:=by rw [h6];rfl
 obtain ⟨bP,oP,rfl,hbP,hcP⟩:=hp (by simp)
 have hcs:=hcP 0 (by simp)
 simp only [List.getElem_cons_zero,Nat.add_zero] at hcs
 obtain ⟨A',hcut,hps,hpc⟩:=psc_cut hp hc hc2
 have hkv:∀ W,Fr w W→InV W (Lo w.heap.size) v (vA v B d B' d'):=fun W hW=>hv.keep (Nat.le_refl _) hW
 obtain ⟨O,hOe⟩:∃ O,O=Lo w.heap.size:=⟨_,rfl⟩
 have hZ:∀ b,O b→b<w.heap.size:=fun b hb=>by rw [hOe] at hb;exact hb
 obtain ⟨r,bb,hrb⟩:∃ (r:JV) (bb:Bool),(Pt.get v s=(if bb then some r else none))∧(bb=false→r=JV.zeroV):=by
  cases hg:Pt.get v s with
  | none=>exact ⟨JV.zeroV,false,rfl,fun _=>rfl⟩
  | some y=>exact ⟨y,true,rfl,fun h=>by cases h⟩
 have hgt:∀ W,Fr w W→Calls Tryz.prog 38 #[.agg #[.int .i64 v.kd,.int .i64 v.nm,.string ⟨v.tx.toArray⟩,.slice B v.ls.length d,.slice B' v.ms.length d'],.string ⟨s.toArray⟩] W fun e w'=>∃ (E:Option Addr) (e1:Nat) (E':Option Addr) (e1':Nat),e=.returned (.tuple #[.agg #[.int .i64 r.kd,.int .i64 r.nm,.string ⟨r.tx.toArray⟩,.slice E r.ls.length e1,.slice E' r.ms.length e1'],.bool bb])∧InV w' O r (vA r E e1 E' e1')∧Fr W w':=fun W hW=>by
  have h:=get7_is v B d B' d' s W w.heap.size hW.size (hkv W hW)
  rw [hOe]
  rw [hrb.1] at h
  cases bb with
  | false=>have hz:=hrb.2 rfl;subst hz;exact h.mono (fun e w' k=>⟨none,0,none,0,k.1,zeroV_in _ _,k.2⟩)
  | true=>exact h.mono (fun e w' ⟨E,e1,E',e1',k1,k2,k3⟩=>⟨E,e1,E',e1',k1,k2,k3⟩)
 obtain ⟨tl,htl⟩:∃ tl,t::ps=tl:=⟨_,rfl⟩
 obtain ⟨lr,hlr⟩:∃ lr,Pc.leads r tl=lr:=⟨_,rfl⟩
 have hres:Pc.leads v (s::t::ps)=(bb && lr):=by
  show (v.kd == 6 && (match Pt.get v s with | none=>false | some x=>Pc.leads x (t::ps)))=_
  rw [hrb.1,h6,← hlr,← htl]
  cases bb <;> rfl
 have hth:∀ W,Fr w W → ∀ E e E' e',InV W (Lo W.heap.size) r (vA r E e E' e')→Calls Tryz.prog 31 #[.agg #[.int .i64 r.kd,.int .i64 r.nm,.string ⟨r.tx.toArray⟩,.slice E r.ls.length e,.slice E' r.ms.length e'],.slice A' tl.length (c - 1)] W fun en w'=>en=.returned (.bool lr)∧Fr W w':=fun W hW E e E' e' hi=>by
  have:=ih r E e E' e' A' (c - 1) W hi (hps W hW) hpc (by omega) (by simp only [List.length_cons] at hl2 ⊢;omega)
  rw [htl,hlr] at this
  exact this
 have htl0:0<tl.length:=by rw [← htl];simp
 rw [htl] at hcut
 have hc3:tl.length+1≤c:=by rw [← htl];exact hc
 have htl2:tl.length+1≤1048577:=by rw [← htl];exact hl2
 have hlen1:((tl.length:Int)+1 == 1)=false:=by rw [beq_eq_false_iff_ne];omega
 have hlen0:(0:Int)<(tl.length:Int)+1:=by omega
 have HZ:=Lib.hid hZ
 have HNM:Hid (∀ W,Fr w W→W.cell? ⟨bP,oP,none⟩=some (.string ⟨s.toArray⟩)):=Lib.hid (fun W hW=>(hW.cell hbP).trans hcs)
 have HGT0:=Lib.hid hgt
 have HTH0:=Lib.hid hth
 have HOE:=Lib.hid hOe
 have hgoal:(s::t::ps).length=tl.length+1:=by rw [← htl];rfl
 rw [hgoal,hres]
 clear hv hp hcP hcs hkv hbP hgt hrb hth hps hc hl2 htl hgoal ih hres h6 hlr hOe
 go_enter Tryz.func31,Tryz.ntmps31
 go_upto_region 1 with fail
 have hb3:=Blk.made w #[.int .i64 v.kd,.int .i64 v.nm,.string ⟨v.tx.toArray⟩,.slice B v.ls.length d,.slice B' v.ms.length d'] 25
 have hf0:Fr w (w.alloc (.cells #[.int .i64 v.kd,.int .i64 v.nm,.string ⟨v.tx.toArray⟩,.slice B v.ls.length d,.slice B' v.ms.length d'] 25)):=(Fr.refl w).alloc _
 generalize (w.alloc (.cells #[.int .i64 v.kd,.int .i64 v.nm,.string ⟨v.tx.toArray⟩,.slice B v.ls.length d,.slice B' v.ms.length d'] 25))=W0 at hb3 hf0 ⊢
 obtain ⟨X3,hX3⟩:∃ X,w.heap.size=X:=⟨_,rfl⟩
 rw [hX3] at hb3 ⊢
 clear hX3
 have HB3:=Lib.hid hb3
 have HF0:=Lib.hid hf0
 obtain ⟨⟨y0,y1,y2,y3,y4⟩,_⟩:=box5 hb3
 clear hb3 hf0
 have HZ0:Hid (∀ b,O b→b<W0.heap.size):=Lib.hid (ltS HZ.out HF0.out)
 have HWZ:Hid (∀ W,Fr W0 W → ∀ b,O b→b<W.heap.size):=Lib.hid (fun W hW=>ltS HZ0.out hW)
 have HS2:Hid (∀ W,Fr W0 W→W.cell? ⟨X3,0,none⟩=some (.int .i64 v.kd)∧W.cell? ⟨X3,1,none⟩=some (.int .i64 v.nm)∧W.cell? ⟨X3,2,none⟩=some (.string ⟨v.tx.toArray⟩)∧W.cell? ⟨X3,3,none⟩=some (.slice B v.ls.length d)∧W.cell? ⟨X3,4,none⟩=some (.slice B' v.ms.length d')∧W.cell? ⟨bP,oP,none⟩=some (.string ⟨s.toArray⟩)):=Lib.hid (fun W hW=>by
  have a:=HB3.out.keep hW
  exact ⟨a.cell 0,a.cell 1,a.cell 2,a.cell 3,a.cell 4,HNM.out W (HF0.out.trans hW)⟩)
 have HGT:Hid (∀ W,Fr W0 W→Calls Tryz.prog 38 #[.agg #[.int .i64 v.kd,.int .i64 v.nm,.string ⟨v.tx.toArray⟩,.slice B v.ls.length d,.slice B' v.ms.length d'],.string ⟨s.toArray⟩] W fun e w'=>∃ (E:Option Addr) (e1:Nat) (E':Option Addr) (e1':Nat),e=.returned (.tuple #[.agg #[.int .i64 r.kd,.int .i64 r.nm,.string ⟨r.tx.toArray⟩,.slice E r.ls.length e1,.slice E' r.ms.length e1'],.bool bb])∧InV w' O r (vA r E e1 E' e1')∧Fr W w'):=Lib.hid (fun W hW=>HGT0.out W (HF0.out.trans hW))
 go_upto_region 5 with fail
 clear y0 y1 y2 y3 y4
 go_cut [5,6] from 14 to 21 (fun q q2 wx=>∃ (X7:Nat) (E:Option Addr) (e:Nat) (E':Option Addr) (e':Nat),q=.pointer (some ⟨X7,0,none⟩)∧q2=.bool bb∧Hid (W0.heap.size≤X7)∧Hid (Blk wx X7 #[.int .i64 r.kd,.int .i64 r.nm,.string ⟨r.tx.toArray⟩,.slice E r.ls.length e,.slice E' r.ms.length e'] 25)∧Hid (InV wx O r (vA r E e E' e'))∧Hid (Fr W0 wx))
 case first=>
  refine wp_region_held_drew (S:=(fun W=>W.cell? ⟨X3,0,none⟩=some (.int .i64 v.kd)∧W.cell? ⟨X3,1,none⟩=some (.int .i64 v.nm)∧W.cell? ⟨X3,2,none⟩=some (.string ⟨v.tx.toArray⟩)∧W.cell? ⟨X3,3,none⟩=some (.slice B v.ls.length d)∧W.cell? ⟨X3,4,none⟩=some (.slice B' v.ms.length d')∧W.cell? ⟨bP,oP,none⟩=some (.string ⟨s.toArray⟩))) (by kernel_rfl) ?_ (fun hHeld=>?_)
  ·exact HS2.out _ (Fr.refl _).drew
  refine tk (i:=0) (v:=?_) rfl ⟨by rfl,?_⟩ hHeld ?_
  rotate_left
  ·(intro w' hSw;(try dsimp only at hSw);go_simp;try with_reducible rfl)
  try simp only [Act.put,fl]
  refine tk (i:=1) (v:=?_) rfl ⟨by rfl,?_⟩ hHeld ?_
  rotate_left
  ·(intro w' hSw;(try dsimp only at hSw);go_simp;try with_reducible rfl)
  try simp only [Act.put,fl]
  refine tk (i:=2) (v:=?_) rfl ⟨by rfl,?_⟩ hHeld ?_
  rotate_left
  ·(intro w' hSw;(try dsimp only at hSw);go_simp;try with_reducible rfl)
  try simp only [Act.put,fl]
  refine tk (i:=3) (v:=?_) rfl ⟨by rfl,?_⟩ hHeld ?_
  rotate_left
  ·(intro w' hSw;(try dsimp only at hSw);go_simp;try with_reducible rfl)
  try simp only [Act.put,fl]
  refine wpAnyH_ready (rs:=[4,8]) (by kernel_rfl) (by simp) ?_
  refine AllReadyH.cons rfl (fun K hK=>?_) (AllReadyH.cons rfl (fun K hK=>?_) AllReadyH.nil)
  ·go_simp
   (go_at_call 38;refine (HGT.out _ (Fr.refl W0).drew).mono ?_;rintro en w1 ⟨E,e,E',e',rfl,hi,hf⟩;have HI:=Lib.hid hi;clear hi;have HF1:Hid (Fr W0 w1):=Lib.hid ((Fr.refl W0).drew.trans hf);clear hf)
   refine hK.out _ _ (HS2.out _ HF1.out) (fun hH2=>?_)
   clear hK K
   try simp only [Act.put,fl]
   refine tk (i:=5) (v:=?_) rfl ⟨by rfl,?_⟩ hH2 ?_
   rotate_left
   ·(intro w' hSw;(try dsimp only at hSw);go_simp;try with_reducible rfl)
   try simp only [Act.put,fl]
   refine tk (i:=6) (v:=?_) rfl ⟨by rfl,?_⟩ hH2 ?_
   rotate_left
   ·(intro w' hSw;(try dsimp only at hSw);go_simp;try with_reducible rfl)
   try simp only [Act.put,fl]
   refine tk (i:=7) (v:=?_) rfl ⟨by rfl,?_⟩ hH2 ?_
   rotate_left
   ·(intro w' hSw;(try dsimp only at hSw);go_simp;try with_reducible rfl)
   try simp only [Act.put,fl]
   refine wpAnyH_ready (rs:=[8]) (by kernel_rfl) (by simp) ?_
   refine AllReadyH.cons rfl (fun K hK=>?_) AllReadyH.nil
   go_simp
   refine hK.out _ _ (HS2.out _ (HF1.out.alloc _)) (fun hH3=>?_)
   clear hK K
   try simp only [Act.put,fl]
   have HB7:Hid (Blk (w1.alloc (.cells #[.int .i64 0,.int .i64 0,.string ⟨#[]⟩,.slice none 0 0,.slice none 0 0] 25)) w1.heap.size #[.int .i64 0,.int .i64 0,.string ⟨#[]⟩,.slice none 0 0,.slice none 0 0] 25):=Lib.hid (Blk.made w1 _ _)
   have HF7:Hid (Fr W0 (w1.alloc (.cells #[.int .i64 0,.int .i64 0,.string ⟨#[]⟩,.slice none 0 0,.slice none 0 0] 25))):=Lib.hid (HF1.out.alloc _)
   have HX7:Hid (W0.heap.size≤w1.heap.size):=Lib.hid HF1.out.size
   have HH7:Hid (Fr w1 (w1.alloc (.cells #[.int .i64 0,.int .i64 0,.string ⟨#[]⟩,.slice none 0 0,.slice none 0 0] 25))):=Lib.hid ((Fr.refl w1).alloc _)
   generalize (w1.alloc (.cells #[.int .i64 0,.int .i64 0,.string ⟨#[]⟩,.slice none 0 0,.slice none 0 0] 25))=W7 at HB7 HF7 HH7 ⊢
   generalize w1.heap.size=X7 at HB7 HX7 ⊢
   obtain ⟨⟨z0,z1,z2,z3,z4⟩,zf0,zf1,zf2,zf3,zf4⟩:=box5 HB7.out
   refine wpAnyH_ready (rs:=[9]) (by kernel_rfl) (by simp) ?_
   refine AllReadyH.cons rfl (fun K hK=>?_) AllReadyH.nil
   go_simp
   refine hK.out _ _ (HS2.out _ (st5_fr HF7.out HX7.out _ _ _ _ _)) (fun hH5=>?_)
   clear hK K
   try simp only [Act.put,fl]
   refine tk (i:=10) (v:=?_) rfl ⟨by rfl,?_⟩ hH5 ?_
   rotate_left
   ·(intro w' hSw;(try dsimp only at hSw);go_simp;try with_reducible rfl)
   try simp only [Act.put,fl]
   refine wpAnyH_done (by kernel_rfl) ?_ _
   have hb9:Blk (((((W7.setCell ⟨X7,0,none⟩ (.int .i64 r.kd)).setCell ⟨X7,1,none⟩ (.int .i64 r.nm)).setCell ⟨X7,2,none⟩ (.string ⟨r.tx.toArray⟩)).setCell ⟨X7,3,none⟩ (.slice E r.ls.length e)).setCell ⟨X7,4,none⟩ (.slice E' r.ms.length e')) X7 #[.int .i64 r.kd,.int .i64 r.nm,.string ⟨r.tx.toArray⟩,.slice E r.ls.length e,.slice E' r.ms.length e'] 25:=set5 HB7.out
   have hf9:Fr W0 (((((W7.setCell ⟨X7,0,none⟩ (.int .i64 r.kd)).setCell ⟨X7,1,none⟩ (.int .i64 r.nm)).setCell ⟨X7,2,none⟩ (.string ⟨r.tx.toArray⟩)).setCell ⟨X7,3,none⟩ (.slice E r.ls.length e)).setCell ⟨X7,4,none⟩ (.slice E' r.ms.length e')):=st5_fr HF7.out HX7.out _ _ _ _ _
   have hi9:InV (((((W7.setCell ⟨X7,0,none⟩ (.int .i64 r.kd)).setCell ⟨X7,1,none⟩ (.int .i64 r.nm)).setCell ⟨X7,2,none⟩ (.string ⟨r.tx.toArray⟩)).setCell ⟨X7,3,none⟩ (.slice E r.ls.length e)).setCell ⟨X7,4,none⟩ (.slice E' r.ms.length e')) O r (vA r E e E' e'):=((HI.out.keepS (HWZ.out _ HF1.out) HH7.out).map (fun b hb=>hb) (fun b o hb=>(st5_frx W7 X7 _ _ _ _ _).cell (HWZ.out _ HF7.out b hb) (by have:=HZ0.out b hb;have:=HX7.out;omega)))
   clear z0 z1 z2 z3 z4 zf0 zf1 zf2 zf3 zf4
   generalize (((((W7.setCell ⟨X7,0,none⟩ (.int .i64 r.kd)).setCell ⟨X7,1,none⟩ (.int .i64 r.nm)).setCell ⟨X7,2,none⟩ (.string ⟨r.tx.toArray⟩)).setCell ⟨X7,3,none⟩ (.slice E r.ls.length e)).setCell ⟨X7,4,none⟩ (.slice E' r.ms.length e'))=W9 at hb9 hf9 hi9 ⊢
   have HB9:=Lib.hid hb9
   have HF9:=Lib.hid hf9
   have HI9:=Lib.hid hi9
   clear hb9 hf9 hi9
   repeat (first | go_skip | go_step)
   go_meet
   exact ⟨X7,E,e,E',e',rfl,rfl,HX7,HB9,HI9,HF9⟩
  ·go_simp
   refine hK.out _ _ (HS2.out _ ((Fr.refl W0).drew.alloc _)) (fun hH2=>?_)
   clear hK K
   try simp only [Act.put,fl]
   refine wpAnyH_ready (rs:=[4]) (by kernel_rfl) (by simp) ?_
   refine AllReadyH.cons rfl (fun K hK=>?_) AllReadyH.nil
   go_simp
   (go_at_call 38;refine (HGT.out _ ((Fr.refl W0).drew.alloc _)).mono ?_;rintro en w1 ⟨E,e,E',e',rfl,hi,hf⟩;have HI:=Lib.hid hi;clear hi;have HF7:Hid (Fr W0 w1):=Lib.hid (((Fr.refl W0).drew.alloc _).trans hf);have HB7:Hid (Blk w1 W0.heap.size #[.int .i64 0,.int .i64 0,.string ⟨#[]⟩,.slice none 0 0,.slice none 0 0] 25):=Lib.hid ((Blk.made W0.drew _ _).keep hf);have HX7:Hid (W0.heap.size≤W0.heap.size):=Lib.hid (Nat.le_refl _);have HH7:Hid (Fr w1 w1):=Lib.hid (Fr.refl w1);clear hf)
   refine hK.out _ _ (HS2.out _ HF7.out) (fun hH3=>?_)
   clear hK K
   try simp only [Act.put,fl]
   refine tk (i:=5) (v:=?_) rfl ⟨by rfl,?_⟩ hH3 ?_
   rotate_left
   ·(intro w' hSw;(try dsimp only at hSw);go_simp;try with_reducible rfl)
   try simp only [Act.put,fl]
   refine tk (i:=6) (v:=?_) rfl ⟨by rfl,?_⟩ hH3 ?_
   rotate_left
   ·(intro w' hSw;(try dsimp only at hSw);go_simp;try with_reducible rfl)
   try simp only [Act.put,fl]
   refine tk (i:=7) (v:=?_) rfl ⟨by rfl,?_⟩ hH3 ?_
   rotate_left
   ·(intro w' hSw;(try dsimp only at hSw);go_simp;try with_reducible rfl)
   try simp only [Act.put,fl]
   obtain ⟨⟨z0,z1,z2,z3,z4⟩,zf0,zf1,zf2,zf3,zf4⟩:=box5 HB7.out
   refine wpAnyH_ready (rs:=[9]) (by kernel_rfl) (by simp) ?_
   refine AllReadyH.cons rfl (fun K hK=>?_) AllReadyH.nil
   go_simp
   refine hK.out _ _ (HS2.out _ (st5_fr HF7.out HX7.out _ _ _ _ _)) (fun hH5=>?_)
   clear hK K
   try simp only [Act.put,fl]
   refine tk (i:=10) (v:=?_) rfl ⟨by rfl,?_⟩ hH5 ?_
   rotate_left
   ·(intro w' hSw;(try dsimp only at hSw);go_simp;try with_reducible rfl)
   try simp only [Act.put,fl]
   refine wpAnyH_done (by kernel_rfl) ?_ _
   have hb9:Blk (((((w1.setCell ⟨W0.heap.size,0,none⟩ (.int .i64 r.kd)).setCell ⟨W0.heap.size,1,none⟩ (.int .i64 r.nm)).setCell ⟨W0.heap.size,2,none⟩ (.string ⟨r.tx.toArray⟩)).setCell ⟨W0.heap.size,3,none⟩ (.slice E r.ls.length e)).setCell ⟨W0.heap.size,4,none⟩ (.slice E' r.ms.length e')) W0.heap.size #[.int .i64 r.kd,.int .i64 r.nm,.string ⟨r.tx.toArray⟩,.slice E r.ls.length e,.slice E' r.ms.length e'] 25:=set5 HB7.out
   have hf9:Fr W0 (((((w1.setCell ⟨W0.heap.size,0,none⟩ (.int .i64 r.kd)).setCell ⟨W0.heap.size,1,none⟩ (.int .i64 r.nm)).setCell ⟨W0.heap.size,2,none⟩ (.string ⟨r.tx.toArray⟩)).setCell ⟨W0.heap.size,3,none⟩ (.slice E r.ls.length e)).setCell ⟨W0.heap.size,4,none⟩ (.slice E' r.ms.length e')):=st5_fr HF7.out HX7.out _ _ _ _ _
   have hi9:InV (((((w1.setCell ⟨W0.heap.size,0,none⟩ (.int .i64 r.kd)).setCell ⟨W0.heap.size,1,none⟩ (.int .i64 r.nm)).setCell ⟨W0.heap.size,2,none⟩ (.string ⟨r.tx.toArray⟩)).setCell ⟨W0.heap.size,3,none⟩ (.slice E r.ls.length e)).setCell ⟨W0.heap.size,4,none⟩ (.slice E' r.ms.length e')) O r (vA r E e E' e'):=((HI.out.keepS (HWZ.out _ HF7.out) HH7.out).map (fun b hb=>hb) (fun b o hb=>(st5_frx w1 W0.heap.size _ _ _ _ _).cell (HWZ.out _ HF7.out b hb) (by have:=HZ0.out b hb;have:=HX7.out;omega)))
   clear z0 z1 z2 z3 z4 zf0 zf1 zf2 zf3 zf4
   generalize (((((w1.setCell ⟨W0.heap.size,0,none⟩ (.int .i64 r.kd)).setCell ⟨W0.heap.size,1,none⟩ (.int .i64 r.nm)).setCell ⟨W0.heap.size,2,none⟩ (.string ⟨r.tx.toArray⟩)).setCell ⟨W0.heap.size,3,none⟩ (.slice E r.ls.length e)).setCell ⟨W0.heap.size,4,none⟩ (.slice E' r.ms.length e'))=W9 at hb9 hf9 hi9 ⊢
   have HB9:=Lib.hid hb9
   have HF9:=Lib.hid hf9
   have HI9:=Lib.hid hi9
   clear hb9 hf9 hi9
   repeat (first | go_skip | go_step)
   go_meet
   exact ⟨W0.heap.size,E,e,E',e',rfl,rfl,HX7,HB9,HI9,HF9⟩
 obtain ⟨X7,E,e,E',e',rfl,rfl,HX7,HB7,HI7,HF07⟩:=hcut
 obtain ⟨W7,hW7⟩:∃ W,W=wc:=⟨wc,rfl⟩
 subst hW7
 cases bb
 ·go_upto_region 6 with fail
  refine wp_region_held_drew (S:=(fun W=>True)) (by kernel_rfl) ?_ (fun hHeld=>?_)
  ·trivial
  refine tk (i:=0) (v:=?_) rfl ⟨by rfl,?_⟩ hHeld ?_
  rotate_left
  ·(intro w' hSw;(try dsimp only at hSw);go_simp;try with_reducible rfl)
  try simp only [Act.put,fl]
  refine tk (i:=1) (v:=?_) rfl ⟨by rfl,?_⟩ hHeld ?_
  rotate_left
  ·(intro w' hSw;(try dsimp only at hSw);go_simp;try with_reducible rfl)
  try simp only [Act.put,fl]
  refine wpAnyH_take (i:=2) (v:=undef) rfl (by kernel_rfl) (by kernel_rfl) (by kernel_rfl) (fun _ _ _ h=>h) (Or.inr ⟨by rfl,rfl⟩) hHeld ?_
  try simp only [Act.put,fl]
  refine wpAnyH_take (i:=3) (v:=undef) rfl (by kernel_rfl) (by kernel_rfl) (by kernel_rfl) (fun _ _ _ h=>h) (Or.inr ⟨by rfl,rfl⟩) hHeld ?_
  try simp only [Act.put,fl]
  refine wpAnyH_take (i:=4) (v:=undef) rfl (by kernel_rfl) (by kernel_rfl) (by kernel_rfl) (fun _ _ _ h=>h) (Or.inr ⟨by rfl,rfl⟩) hHeld ?_
  try simp only [Act.put,fl]
  refine wpAnyH_take (i:=5) (v:=undef) rfl (by kernel_rfl) (by kernel_rfl) (by kernel_rfl) (fun _ _ _ h=>h) (Or.inr ⟨by rfl,rfl⟩) hHeld ?_
  try simp only [Act.put,fl]
  refine tk (i:=6) (v:=?_) rfl ⟨by rfl,?_⟩ hHeld ?_
  rotate_left
  ·(intro w' hSw;(try dsimp only at hSw);go_simp;try with_reducible rfl)
  try simp only [Act.put,fl]
  refine tk (i:=7) (v:=?_) rfl ⟨by rfl,?_⟩ hHeld ?_
  rotate_left
  ·(intro w' hSw;(try dsimp only at hSw);go_simp;try with_reducible rfl)
  try simp only [Act.put,fl]
  refine wpAnyH_done (by kernel_rfl) ?_ _
  clear hHeld
  go_wp2_with fail
  go_ret
  exact ⟨rfl,(HF0.out.trans HF07.out).drew⟩
 ·have HTH:Hid (∀ W,Fr W7 W→Calls Tryz.prog 31 #[.agg #[.int .i64 r.kd,.int .i64 r.nm,.string ⟨r.tx.toArray⟩,.slice E r.ls.length e,.slice E' r.ms.length e'],.slice A' tl.length (c - 1)] W fun en w'=>en=.returned (.bool lr)∧Fr W w'):=Lib.hid (fun W hW=>HTH0.out W ((HF0.out.trans HF07.out).trans hW) E e E' e' ((HI7.out.keepS (HWZ.out _ HF07.out) hW).more (fun b hb=>HWZ.out _ (HF07.out.trans hW) b hb)))
  have HS6:Hid (∀ W,Fr W7 W→W.cell? ⟨X7,0,none⟩=some (.int .i64 r.kd)∧W.cell? ⟨X7,1,none⟩=some (.int .i64 r.nm)∧W.cell? ⟨X7,2,none⟩=some (.string ⟨r.tx.toArray⟩)∧W.cell? ⟨X7,3,none⟩=some (.slice E r.ls.length e)∧W.cell? ⟨X7,4,none⟩=some (.slice E' r.ms.length e')):=Lib.hid (fun W hW=>by
   have q:=HB7.out.keep hW
   exact ⟨q.cell 0,q.cell 1,q.cell 2,q.cell 3,q.cell 4⟩)
  go_upto_region 6 with fail
  refine wp_region_held_drew (S:=(fun W=>W.cell? ⟨X7,0,none⟩=some (.int .i64 r.kd)∧W.cell? ⟨X7,1,none⟩=some (.int .i64 r.nm)∧W.cell? ⟨X7,2,none⟩=some (.string ⟨r.tx.toArray⟩)∧W.cell? ⟨X7,3,none⟩=some (.slice E r.ls.length e)∧W.cell? ⟨X7,4,none⟩=some (.slice E' r.ms.length e'))) (by kernel_rfl) ?_ (fun hHeld=>?_)
  ·exact HS6.out _ (Fr.refl _).drew
  refine tk (i:=0) (v:=?_) rfl ⟨by rfl,?_⟩ hHeld ?_
  rotate_left
  ·(intro w' hSw;(try dsimp only at hSw);go_simp;try with_reducible rfl)
  try simp only [Act.put,fl]
  refine tk (i:=1) (v:=?_) rfl ⟨by rfl,?_⟩ hHeld ?_
  rotate_left
  ·(intro w' hSw;(try dsimp only at hSw);go_simp;try with_reducible rfl)
  try simp only [Act.put,fl]
  refine tk (i:=2) (v:=?_) rfl ⟨by rfl,?_⟩ hHeld ?_
  rotate_left
  ·(intro w' hSw;(try dsimp only at hSw);go_simp;try with_reducible rfl)
  try simp only [Act.put,fl]
  refine tk (i:=3) (v:=?_) rfl ⟨by rfl,?_⟩ hHeld ?_
  rotate_left
  ·(intro w' hSw;(try dsimp only at hSw);go_simp;try with_reducible rfl)
  try simp only [Act.put,fl]
  refine tk (i:=4) (v:=?_) rfl ⟨by rfl,?_⟩ hHeld ?_
  rotate_left
  ·(intro w' hSw;(try dsimp only at hSw);go_simp;try with_reducible rfl)
  try simp only [Act.put,fl]
  refine wpAnyH_ready (rs:=[5]) (by kernel_rfl) (by simp) ?_
  refine AllReadyH.cons rfl (fun K hK=>?_) AllReadyH.nil
  go_simp
  (go_at_call 31;refine (HTH.out _ (Fr.refl W7).drew).mono ?_;rintro en w8 ⟨rfl,hf⟩;have HF8:Hid (Fr W7 w8):=Lib.hid ((Fr.refl W7).drew.trans hf);clear hf)
  try (refine hK.out _ _ ?_ (fun hHeld2=>?_))
  ·exact HS6.out _ HF8.out
  clear hK K
  try simp only [Act.put,fl]
  refine tk (i:=6) (v:=?_) rfl ⟨by rfl,?_⟩ hHeld2 ?_
  rotate_left
  ·(intro w' hSw;(try dsimp only at hSw);go_simp;try with_reducible rfl)
  try simp only [Act.put,fl]
  refine tk (i:=7) (v:=?_) rfl ⟨by rfl,?_⟩ hHeld2 ?_
  rotate_left
  ·(intro w' hSw;(try dsimp only at hSw);go_simp;try with_reducible rfl)
  try simp only [Act.put,fl]
  refine wpAnyH_done (by kernel_rfl) ?_ _
  clear hHeld hHeld2
  go_wp2_with fail
  go_ret
  exact ⟨rfl,(HF0.out.trans HF07.out).trans HF8.out⟩
theorem rthr_is:∀ (ps:List (List UInt8)),ps≠[]→RThr ps
 | [],h=>absurd rfl h
 | [s],_=>rthr_one s
 | s::t::ps,_=>rthr_more s t ps (rthr_is (t::ps) (by simp))
end Go.Proofs.YtlmcfhokfiibkaaGreatDoor
