/- Chapter 09: Apply's answer lies in new memory that may be written. -/
import Derived.Test.YtlmcfhokfiibkaaGreatDoorPcd
import Derived.Test.YtlmcfhokfiibkaaGreatDoorCpD
namespace Go.Proofs.YtlmcfhokfiibkaaGreatDoor
set_option maxRecDepth 100000
set_option maxHeartbeats 4000000
set_option linter.unusedVariables false
set_option linter.unusedSimpArgs false
open Go.RowKit

theorem CqI.noO {W:World} {g:Nat} {m:List (List UInt8 × JV)} {S S' O O':Nat→Prop} (h:CqI W g m S O m.length) (hS:∀ b,S b→S' b):CqI W g m S' O' m.length:=⟨h.blk,fun k hk=>by
 obtain ⟨C,f,C',f',h0,h00,h1,h2⟩:=h.at_ k hk
 rw [if_pos hk] at h2 ⊢
 exact ⟨C,f,C',f',h0,h00,h1,h2.more hS⟩⟩
def OwnV (w:World) (B:Nat) (x:JV) (D':Option Addr):Prop:=0<x.ms.length → ∃ g,D'=some ⟨g,0,none⟩∧B≤g∧CqI w g x.ms (fun b=>SB B w b∧b≠g) (fun _=>False) x.ms.length
theorem OwnV.frx {w w':World} {B B' X:Nat} {x:JV} {D':Option Addr} (h:OwnV w B x D') (hf:FrX X w w') (hX:X<B) (hB:B'≤B):OwnV w' B' x D':=fun h0=>by
 obtain ⟨g,hD,hg,hq⟩:=h h0
 refine ⟨g,hD,by omega,?_⟩
 have hq2:=hq.frx hf (show g≠X by omega) (fun b hb=>hb.1.1.2) (fun b hb=>hb.elim) (fun b hb=>by have:=hb.1.1.1;omega) (fun b hb=>hb.elim)
 exact hq2.noO (fun b hb=>⟨hb.1.frx hf (by have:=hb.1.1.1;omega) (fun _=>by omega),hb.2⟩)
theorem copyO_is (u:JV) (x:Value) (w:World) (hx:InV w (Lo w.heap.size) u x) (hn:Rd.nv u≤1048576):Calls Tryz.prog 17 #[x] w fun e w'=>(∃ (C:Option Addr) (f:Nat) (C':Option Addr) (f':Nat),e=.returned (vA u C f C' f')∧InV w' (SB w.heap.size w') u (vA u C f C' f')∧OwnV w' w.heap.size u C')∧Fr w w':=by
 refine (copyqS_is u x w hx hn).mono ?_
 rintro e w' ⟨⟨C,f,C',f',rfl,hi,hq⟩,hf⟩
 exact ⟨⟨C,f,C',f',rfl,hi,fun h0=>by
  obtain ⟨g,h1,h2,h3⟩:=hq h0
  exact ⟨g,h1,h2,h3.noO (fun _ h=>h)⟩⟩,hf⟩
def ApS (w:World):Option JV→Ending→World→Prop
 | none,e,w'=>e=.returned (.tuple #[.agg #[.int .i64 0,.int .i64 0,.string ⟨#[]⟩,.slice none 0 0,.slice none 0 0],.int .i64 90])∧Fr w w'
 | some x,e,w'=>(∃ (D:Option Addr) (g:Nat) (D':Option Addr) (g':Nat),e=.returned (.tuple #[.agg #[.int .i64 x.kd,.int .i64 x.nm,.string ⟨x.tx.toArray⟩,.slice D x.ls.length g,.slice D' x.ms.length g'],.int .i64 0])∧InV w' (SB w.heap.size w') x (vA x D g D' g')∧OwnV w' w.heap.size x D')∧Fr w w'
theorem papplyS_g (v p:JV) (B:Option Addr) (d:Nat) (B':Option Addr) (d':Nat) (C:Option Addr) (f:Nat) (C':Option Addr) (f':Nat) (w:World) (hv:InV w (Lo w.heap.size) v (vA v B d B' d')) (hp:InV w (Lo w.heap.size) p (vA p C f C' f')) (hn:∀ x∈p.ms,x.1.length≤4194304) (hlk:∀ l,Pc.chg p=some l→Pc.Likes p l) (hM:MxL w) (hnv:∀ l,Pc.chg p=some l→Pc.fits v l=true → ∀ k,Rd.nv (Pc.putL v (l.take k))≤1048576):
  Calls Tryz.prog 11 #[.agg #[.int .i64 v.kd,.int .i64 v.nm,.string ⟨v.tx.toArray⟩,.slice B v.ls.length d,.slice B' v.ms.length d'],.agg #[.int .i64 p.kd,.int .i64 p.nm,.string ⟨p.tx.toArray⟩,.slice C p.ls.length f,.slice C' p.ms.length f']] w (ApS w (Pc.apply v p)):=by
 obtain ⟨R,hR⟩:∃ R,Pc.apply v p=R:=⟨_,rfl⟩
 rw [hR]
 have HCH:Hid (∀ W,Fr w W→Calls Tryz.prog 26 #[.agg #[.int .i64 p.kd,.int .i64 p.nm,.string ⟨p.tx.toArray⟩,.slice C p.ls.length f,.slice C' p.ms.length f']] W (ChgP (Lo w.heap.size) W (Pc.chg p))):=Lib.hid (fun W hW=>changes_is p C f C' f' W (Lo w.heap.size) (fun b hb=>Nat.lt_of_lt_of_le hb hW.size) (hp.keep (Nat.le_refl _) hW) hn (hM.keep hW))
 have HV:=Lib.hid hv
 cases hc:Pc.chg p with
 | none=>
  have hrn:Hid (R=none):=Lib.hid (by rw [← hR];unfold Pc.apply;rw [hc])
  rw [hc] at HCH
  clear hv hp hlk hM hn hc hR hnv
  go_enter Tryz.func11,Tryz.ntmps11
  go_upto_region 1 with fail
  have hb1:Blk (((w.alloc (.cells #[.int .i64 v.kd,.int .i64 v.nm,.string ⟨v.tx.toArray⟩,.slice B v.ls.length d,.slice B' v.ms.length d'] 25)).alloc (.cells #[.int .i64 p.kd,.int .i64 p.nm,.string ⟨p.tx.toArray⟩,.slice C p.ls.length f,.slice C' p.ms.length f'] 25)).alloc (.cells #[.int .i64 0,.int .i64 0,.string ⟨#[]⟩,.slice none 0 0,.slice none 0 0] 25)) w.heap.size #[.int .i64 v.kd,.int .i64 v.nm,.string ⟨v.tx.toArray⟩,.slice B v.ls.length d,.slice B' v.ms.length d'] 25:=((Blk.made w _ _).keep ((Fr.refl _).alloc _)).keep ((Fr.refl _).alloc _)
  have hb2:Blk (((w.alloc (.cells #[.int .i64 v.kd,.int .i64 v.nm,.string ⟨v.tx.toArray⟩,.slice B v.ls.length d,.slice B' v.ms.length d'] 25)).alloc (.cells #[.int .i64 p.kd,.int .i64 p.nm,.string ⟨p.tx.toArray⟩,.slice C p.ls.length f,.slice C' p.ms.length f'] 25)).alloc (.cells #[.int .i64 0,.int .i64 0,.string ⟨#[]⟩,.slice none 0 0,.slice none 0 0] 25)) (w.heap.size+1) #[.int .i64 p.kd,.int .i64 p.nm,.string ⟨p.tx.toArray⟩,.slice C p.ls.length f,.slice C' p.ms.length f'] 25:=(boxz (Blk.made (w.alloc _) _ _)).keep ((Fr.refl _).alloc _)
  have hb4:Blk (((w.alloc (.cells #[.int .i64 v.kd,.int .i64 v.nm,.string ⟨v.tx.toArray⟩,.slice B v.ls.length d,.slice B' v.ms.length d'] 25)).alloc (.cells #[.int .i64 p.kd,.int .i64 p.nm,.string ⟨p.tx.toArray⟩,.slice C p.ls.length f,.slice C' p.ms.length f'] 25)).alloc (.cells #[.int .i64 0,.int .i64 0,.string ⟨#[]⟩,.slice none 0 0,.slice none 0 0] 25)) (w.heap.size+1+1) #[.int .i64 0,.int .i64 0,.string ⟨#[]⟩,.slice none 0 0,.slice none 0 0] 25:=boxz2 (Blk.made ((w.alloc _).alloc _) _ _)
  have hf0:Fr w (((w.alloc (.cells #[.int .i64 v.kd,.int .i64 v.nm,.string ⟨v.tx.toArray⟩,.slice B v.ls.length d,.slice B' v.ms.length d'] 25)).alloc (.cells #[.int .i64 p.kd,.int .i64 p.nm,.string ⟨p.tx.toArray⟩,.slice C p.ls.length f,.slice C' p.ms.length f'] 25)).alloc (.cells #[.int .i64 0,.int .i64 0,.string ⟨#[]⟩,.slice none 0 0,.slice none 0 0] 25)):=(((Fr.refl w).alloc _).alloc _).alloc _
  generalize (((w.alloc (.cells #[.int .i64 v.kd,.int .i64 v.nm,.string ⟨v.tx.toArray⟩,.slice B v.ls.length d,.slice B' v.ms.length d'] 25)).alloc (.cells #[.int .i64 p.kd,.int .i64 p.nm,.string ⟨p.tx.toArray⟩,.slice C p.ls.length f,.slice C' p.ms.length f'] 25)).alloc (.cells #[.int .i64 0,.int .i64 0,.string ⟨#[]⟩,.slice none 0 0,.slice none 0 0] 25))=W0 at hb1 hb2 hb4 hf0 ⊢
  have HXX:Hid (w.heap.size<w.heap.size+1+1∧w.heap.size+1+1<W0.heap.size):=Lib.hid ⟨by omega,hb4.lt⟩
  generalize w.heap.size+1+1=X4 at hb4 HXX ⊢
  generalize w.heap.size+1=X2 at hb2 ⊢
  obtain ⟨X1,hX1⟩:∃ X,w.heap.size=X:=⟨_,rfl⟩
  have HX1:=Lib.hid hX1
  rw [hX1] at hb1 HXX ⊢
  clear hX1
  have HB1:=Lib.hid hb1
  have HB2:=Lib.hid hb2
  have HB4:=Lib.hid hb4
  have HF0:=Lib.hid hf0
  obtain ⟨⟨y0,y1,y2,y3,y4⟩,_⟩:=box5 hb2
  clear hb1 hb2 hb4 hf0
  go_wp2_with (go_at_call 26;refine (HCH.out _ HF0.out).mono ?_;rintro e w1 ⟨rfl,hf⟩;have HF9:Hid (Fr w w1):=Lib.hid (HF0.out.trans hf);have hb:=HB4.out.keep hf;obtain ⟨⟨x0,x1,x2,x3,x4⟩,g0,g1,g2,g3,g4⟩:=box5 hb;have HB9:=Lib.hid hb;clear hf hb)
  refine bodyPost_ret (results_cs (by rfl) rfl _ X4 (by rfl) (by rfl) _ _ _ _ _ (set5 HB9.out)) rfl ?_
  rw [hrn.out]
  exact ⟨rfl,HF9.out.put5 (by have:=HXX.out;have:=HX1.out;omega) _ _ _ _ _⟩
 | some l=>
  have hk:=hlk l hc
  obtain ⟨bf,hbf⟩:∃ bf,Pc.fits v l=bf:=⟨_,rfl⟩
  have HFI:Hid (∀ W A c,Fr w W→ChC W A l→Calls Tryz.prog 27 #[.agg #[.int .i64 v.kd,.int .i64 v.nm,.string ⟨v.tx.toArray⟩,.slice B v.ls.length d,.slice B' v.ms.length d'],.slice A l.length c] W fun e w'=>e=.returned (.bool bf)∧Fr W w'):=Lib.hid (fun W A c hW hA=>by
   rw [← hbf]
   exact pfits_is v B d B' d' l A c W ((HV.out.keep (Nat.le_refl _) hW).lo hW.size) hA (Nat.le_trans hk.len (by omega)) (fun x hx=>⟨hk.short x hx,hk.ne x hx⟩))
  have hre:R=if bf then some (Pc.putL v l) else none:=by rw [← hR,← hbf];unfold Pc.apply;rw [hc]
  have HNV:Hid (bf=true → ∀ k,Rd.nv (Pc.putL v (l.take k))≤1048576):=Lib.hid (fun h=>hnv l hc (hbf.trans h))
  have HLK:Hid (l.length≤400 ∧ ∀ i (h:i<l.length),l[i].1≠[]∧l[i].1.length≤1048577 ∧ ∀ s∈l[i].1,s.length≤140737488351232):=Lib.hid ⟨hk.len,fun i h=>⟨hk.ne _ (List.getElem_mem h),hk.short _ (List.getElem_mem h),fun s hs=>by have:=hk.texts _ (List.getElem_mem h) s hs;omega⟩⟩
  rw [hc] at HCH
  clear hv hp hlk hM hn hc hR hk hbf hnv
  cases bf with
  | false=>
   have hrn:Hid (R=none):=Lib.hid hre
   clear hre
   go_enter Tryz.func11,Tryz.ntmps11
   go_upto_region 1 with fail
   have hb1:Blk (((w.alloc (.cells #[.int .i64 v.kd,.int .i64 v.nm,.string ⟨v.tx.toArray⟩,.slice B v.ls.length d,.slice B' v.ms.length d'] 25)).alloc (.cells #[.int .i64 p.kd,.int .i64 p.nm,.string ⟨p.tx.toArray⟩,.slice C p.ls.length f,.slice C' p.ms.length f'] 25)).alloc (.cells #[.int .i64 0,.int .i64 0,.string ⟨#[]⟩,.slice none 0 0,.slice none 0 0] 25)) w.heap.size #[.int .i64 v.kd,.int .i64 v.nm,.string ⟨v.tx.toArray⟩,.slice B v.ls.length d,.slice B' v.ms.length d'] 25:=((Blk.made w _ _).keep ((Fr.refl _).alloc _)).keep ((Fr.refl _).alloc _)
   have hb2:Blk (((w.alloc (.cells #[.int .i64 v.kd,.int .i64 v.nm,.string ⟨v.tx.toArray⟩,.slice B v.ls.length d,.slice B' v.ms.length d'] 25)).alloc (.cells #[.int .i64 p.kd,.int .i64 p.nm,.string ⟨p.tx.toArray⟩,.slice C p.ls.length f,.slice C' p.ms.length f'] 25)).alloc (.cells #[.int .i64 0,.int .i64 0,.string ⟨#[]⟩,.slice none 0 0,.slice none 0 0] 25)) (w.heap.size+1) #[.int .i64 p.kd,.int .i64 p.nm,.string ⟨p.tx.toArray⟩,.slice C p.ls.length f,.slice C' p.ms.length f'] 25:=(boxz (Blk.made (w.alloc _) _ _)).keep ((Fr.refl _).alloc _)
   have hb4:Blk (((w.alloc (.cells #[.int .i64 v.kd,.int .i64 v.nm,.string ⟨v.tx.toArray⟩,.slice B v.ls.length d,.slice B' v.ms.length d'] 25)).alloc (.cells #[.int .i64 p.kd,.int .i64 p.nm,.string ⟨p.tx.toArray⟩,.slice C p.ls.length f,.slice C' p.ms.length f'] 25)).alloc (.cells #[.int .i64 0,.int .i64 0,.string ⟨#[]⟩,.slice none 0 0,.slice none 0 0] 25)) (w.heap.size+1+1) #[.int .i64 0,.int .i64 0,.string ⟨#[]⟩,.slice none 0 0,.slice none 0 0] 25:=boxz2 (Blk.made ((w.alloc _).alloc _) _ _)
   have hf0:Fr w (((w.alloc (.cells #[.int .i64 v.kd,.int .i64 v.nm,.string ⟨v.tx.toArray⟩,.slice B v.ls.length d,.slice B' v.ms.length d'] 25)).alloc (.cells #[.int .i64 p.kd,.int .i64 p.nm,.string ⟨p.tx.toArray⟩,.slice C p.ls.length f,.slice C' p.ms.length f'] 25)).alloc (.cells #[.int .i64 0,.int .i64 0,.string ⟨#[]⟩,.slice none 0 0,.slice none 0 0] 25)):=(((Fr.refl w).alloc _).alloc _).alloc _
   generalize (((w.alloc (.cells #[.int .i64 v.kd,.int .i64 v.nm,.string ⟨v.tx.toArray⟩,.slice B v.ls.length d,.slice B' v.ms.length d'] 25)).alloc (.cells #[.int .i64 p.kd,.int .i64 p.nm,.string ⟨p.tx.toArray⟩,.slice C p.ls.length f,.slice C' p.ms.length f'] 25)).alloc (.cells #[.int .i64 0,.int .i64 0,.string ⟨#[]⟩,.slice none 0 0,.slice none 0 0] 25))=W0 at hb1 hb2 hb4 hf0 ⊢
   have HXX:Hid (w.heap.size<w.heap.size+1+1∧w.heap.size+1+1<W0.heap.size):=Lib.hid ⟨by omega,hb4.lt⟩
   generalize w.heap.size+1+1=X4 at hb4 HXX ⊢
   generalize w.heap.size+1=X2 at hb2 ⊢
   obtain ⟨X1,hX1⟩:∃ X,w.heap.size=X:=⟨_,rfl⟩
   have HX1:=Lib.hid hX1
   rw [hX1] at hb1 HXX ⊢
   clear hX1
   have HB1:=Lib.hid hb1
   have HB2:=Lib.hid hb2
   have HB4:=Lib.hid hb4
   have HF0:=Lib.hid hf0
   obtain ⟨⟨y0,y1,y2,y3,y4⟩,_⟩:=box5 hb2
   clear hb1 hb2 hb4 hf0
   go_upto_region 2 with (go_at_call 26;refine (HCH.out _ HF0.out).mono ?_;rintro e w1 ⟨⟨A,c,rfl,hA⟩,hf⟩;have HF1:=Lib.hid hf;have HA:=Lib.hid (hA.toC (fun b hb=>by rcases hb with hb | hb;exact Nat.lt_of_lt_of_le hb (HF0.out.trans hf).size;exact hb.2));clear hf hA)
   obtain ⟨⟨q0,q1,q2,q3,q4⟩,_⟩:=box5 (HB1.out.keep HF1.out)
   clear y0 y1 y2 y3 y4
   go_wp2_with (go_at_call 27;refine (HFI.out _ A c (HF0.out.trans HF1.out) HA.out).mono ?_;rintro e w2 ⟨rfl,hf⟩;have HF9:Hid (Fr w w2):=Lib.hid ((HF0.out.trans HF1.out).trans hf);have hb:=HB4.out.keep (HF1.out.trans hf);obtain ⟨⟨x0,x1,x2,x3,x4⟩,g0,g1,g2,g3,g4⟩:=box5 hb;have HB9:=Lib.hid hb;clear hf hb)
   refine bodyPost_ret (results_cs (by rfl) rfl _ X4 (by rfl) (by rfl) _ _ _ _ _ (set5 HB9.out)) rfl ?_
   rw [hrn.out]
   exact ⟨rfl,HF9.out.put5 (by have:=HXX.out;have:=HX1.out;omega) _ _ _ _ _⟩
  | true=>
   have HRE:Hid (R=some (Pc.putL v l)):=Lib.hid hre
   have HNV2:Hid (∀ k,Rd.nv (Pc.putL v (l.take k))≤1048576):=Lib.hid (HNV.out rfl)
   clear hre HNV
   go_enter Tryz.func11,Tryz.ntmps11
   go_upto_region 1 with fail
   have hb1:Blk (((w.alloc (.cells #[.int .i64 v.kd,.int .i64 v.nm,.string ⟨v.tx.toArray⟩,.slice B v.ls.length d,.slice B' v.ms.length d'] 25)).alloc (.cells #[.int .i64 p.kd,.int .i64 p.nm,.string ⟨p.tx.toArray⟩,.slice C p.ls.length f,.slice C' p.ms.length f'] 25)).alloc (.cells #[.int .i64 0,.int .i64 0,.string ⟨#[]⟩,.slice none 0 0,.slice none 0 0] 25)) w.heap.size #[.int .i64 v.kd,.int .i64 v.nm,.string ⟨v.tx.toArray⟩,.slice B v.ls.length d,.slice B' v.ms.length d'] 25:=((Blk.made w _ _).keep ((Fr.refl _).alloc _)).keep ((Fr.refl _).alloc _)
   have hb2:Blk (((w.alloc (.cells #[.int .i64 v.kd,.int .i64 v.nm,.string ⟨v.tx.toArray⟩,.slice B v.ls.length d,.slice B' v.ms.length d'] 25)).alloc (.cells #[.int .i64 p.kd,.int .i64 p.nm,.string ⟨p.tx.toArray⟩,.slice C p.ls.length f,.slice C' p.ms.length f'] 25)).alloc (.cells #[.int .i64 0,.int .i64 0,.string ⟨#[]⟩,.slice none 0 0,.slice none 0 0] 25)) (w.heap.size+1) #[.int .i64 p.kd,.int .i64 p.nm,.string ⟨p.tx.toArray⟩,.slice C p.ls.length f,.slice C' p.ms.length f'] 25:=(boxz (Blk.made (w.alloc _) _ _)).keep ((Fr.refl _).alloc _)
   have hb4:Blk (((w.alloc (.cells #[.int .i64 v.kd,.int .i64 v.nm,.string ⟨v.tx.toArray⟩,.slice B v.ls.length d,.slice B' v.ms.length d'] 25)).alloc (.cells #[.int .i64 p.kd,.int .i64 p.nm,.string ⟨p.tx.toArray⟩,.slice C p.ls.length f,.slice C' p.ms.length f'] 25)).alloc (.cells #[.int .i64 0,.int .i64 0,.string ⟨#[]⟩,.slice none 0 0,.slice none 0 0] 25)) (w.heap.size+1+1) #[.int .i64 0,.int .i64 0,.string ⟨#[]⟩,.slice none 0 0,.slice none 0 0] 25:=boxz2 (Blk.made ((w.alloc _).alloc _) _ _)
   have hf0:Fr w (((w.alloc (.cells #[.int .i64 v.kd,.int .i64 v.nm,.string ⟨v.tx.toArray⟩,.slice B v.ls.length d,.slice B' v.ms.length d'] 25)).alloc (.cells #[.int .i64 p.kd,.int .i64 p.nm,.string ⟨p.tx.toArray⟩,.slice C p.ls.length f,.slice C' p.ms.length f'] 25)).alloc (.cells #[.int .i64 0,.int .i64 0,.string ⟨#[]⟩,.slice none 0 0,.slice none 0 0] 25)):=(((Fr.refl w).alloc _).alloc _).alloc _
   generalize (((w.alloc (.cells #[.int .i64 v.kd,.int .i64 v.nm,.string ⟨v.tx.toArray⟩,.slice B v.ls.length d,.slice B' v.ms.length d'] 25)).alloc (.cells #[.int .i64 p.kd,.int .i64 p.nm,.string ⟨p.tx.toArray⟩,.slice C p.ls.length f,.slice C' p.ms.length f'] 25)).alloc (.cells #[.int .i64 0,.int .i64 0,.string ⟨#[]⟩,.slice none 0 0,.slice none 0 0] 25))=W0 at hb1 hb2 hb4 hf0 ⊢
   have HXX:Hid (w.heap.size<w.heap.size+1+1∧w.heap.size+1+1<W0.heap.size):=Lib.hid ⟨by omega,hb4.lt⟩
   generalize w.heap.size+1+1=X4 at hb4 HXX ⊢
   generalize w.heap.size+1=X2 at hb2 ⊢
   obtain ⟨X1,hX1⟩:∃ X,w.heap.size=X:=⟨_,rfl⟩
   have HX1:=Lib.hid hX1
   rw [hX1] at hb1 HXX ⊢
   clear hX1
   have HB1:=Lib.hid hb1
   have HB2:=Lib.hid hb2
   have HB4:=Lib.hid hb4
   have HF0:=Lib.hid hf0
   obtain ⟨⟨y0,y1,y2,y3,y4⟩,_⟩:=box5 hb2
   clear hb1 hb2 hb4 hf0
   go_upto_region 2 with (go_at_call 26;refine (HCH.out _ HF0.out).mono ?_;rintro e w1 ⟨⟨A,c,rfl,hA⟩,hf⟩;have HF1:=Lib.hid hf;have HA:=Lib.hid hA;clear hf hA)
   obtain ⟨⟨q0,q1,q2,q3,q4⟩,_⟩:=box5 (HB1.out.keep HF1.out)
   clear y0 y1 y2 y3 y4
   have HAC:Hid (ChC w1 A l):=Lib.hid (HA.out.toC (fun b hb=>by rcases hb with hb | hb;exact Nat.lt_of_lt_of_le hb (HF0.out.trans HF1.out).size;exact hb.2))
   go_upto_region 4 with (go_at_call 27;refine (HFI.out _ A c (HF0.out.trans HF1.out) HAC.out).mono ?_;rintro e w2 ⟨rfl,hf⟩;have HF2:=Lib.hid hf;clear hf)
   clear q0 q1 q2 q3 q4
   have HF12:=Lib.hid (HF1.out.trans HF2.out)
   have HFW:=Lib.hid (HF0.out.trans HF12.out)
   have HXW:Hid (X1<X4∧X4<w2.heap.size):=Lib.hid ⟨HXX.out.1,Nat.lt_of_lt_of_le HXX.out.2 HF12.out.size⟩
   have HS2:Hid (ChS w2 (fun b=>b<w2.heap.size∧b≠X1) A l):=Lib.hid (HA.out.map (fun b hb=>by
    have h1:=HX1.out
    have h2:=HXX.out
    have h3:=HXW.out
    have h4:=HF2.out.size
    rcases hb with hb | hb
    ·have:b<w.heap.size:=hb
     exact ⟨by omega,by omega⟩
    ·have:=hb.1
     have:=hb.2
     exact ⟨by omega,by omega⟩) (fun b o hb=>HF2.out.cell (by
    rcases hb with hb | hb
    ·exact Nat.lt_of_lt_of_le hb (HF0.out.trans HF1.out).size
    ·exact hb.2)))
   have HB12:=Lib.hid (HB1.out.keep HF12.out)
   have HB42:=Lib.hid (HB4.out.keep HF12.out)
   have HI2:Hid (InV w2 (fun b=>b<w2.heap.size∧b≠X1) v (vA v B d B' d')):=Lib.hid ((HV.out.keep (Nat.le_refl _) HFW.out).more (fun b hb=>by
    have:b<w.heap.size:=hb
    have h1:=HX1.out
    have h3:=HXW.out
    exact ⟨by omega,by omega⟩))
   have HFW2:Hid (Fr w w2):=HFW
   clear HA HAC HB1 HB2 HB4 HF0 HF1 HF2 HF12 HFW HFI HCH HV HXX
   obtain ⟨W2,hW2⟩:∃ W,W=w2:=⟨w2,rfl⟩
   subst hW2
   have hl400:=HLK.out.1
   have hl':(l.length:Int)≤400:=by omega
   go_wp2_with fail
   go_loopw [26] (fun j wr=>∃ (i:Nat) (x:JV) (D:Option Addr) (g:Nat) (D':Option Addr) (g':Nat),i≤l.length∧j=.int .i64 i∧Hid (x=Pc.putL v (l.take i))∧Hid (FrX X1 W2 wr)∧Hid (Blk wr X1 #[.int .i64 x.kd,.int .i64 x.nm,.string ⟨x.tx.toArray⟩,.slice D x.ls.length g,.slice D' x.ms.length g'] 25)∧Hid (InV wr (fun b=>b<wr.heap.size∧b≠X1) x (vA x D g D' g'))) (fun j _=>l.length - (intOf j).toNat)
   case atStart=>exact ⟨0,v,B,d,B',d',by omega,rfl,Lib.hid rfl,Lib.hid (FrX.refl X1 W2),HB12,HI2⟩
   case round=>
    obtain ⟨i,x,D,g,D',g',hi,rfl,hX,hF,hB,hI⟩:=hrel
    have hsz:=hF.out.size
    by_cases hlt:i<l.length
    ·have hlt':(i:Int)<(l.length:Int):=by omega
     obtain ⟨hne,hps2,htx⟩:=HLK.out.2 i hlt
     have hnx:Rd.nv x≤1048576:=by rw [hX.out];exact HNV2.out i
     have hstep:Pc.put x l[i].1 l[i].2=Pc.putL v (l.take (i+1)):=by rw [Pc.putL_take hlt,hX.out]
     obtain ⟨b1,o1,P,c1,E,e,E',e',rfl,hb1,m0,hcc1,hpp,⟨m1,m2,m3,m4,m5⟩,hui⟩:=(HS2.out.map (S':=fun b=>b<wr.heap.size∧b≠X1) (fun b hb=>⟨Nat.lt_of_lt_of_le hb.1 hsz,hb.2⟩) (fun b o hb=>hF.out.cell hb.1 hb.2)) i hlt
     obtain ⟨ps,hpe⟩:∃ ps,l[i].1=ps:=⟨_,rfl⟩
     obtain ⟨u,hue⟩:∃ u,l[i].2=u:=⟨_,rfl⟩
     rw [hpe] at m0 hpp hcc1 hne hps2 htx hstep
     rw [hue] at m1 m2 m3 m4 m5 hui hstep
     obtain ⟨lm,hlm⟩:=Pc.put_map x u ps hne
     have HST:Hid (Pc.putL v (l.take (i+1))=JV.mapV lm):=Lib.hid (by rw [← hstep];exact hlm)
     have HPT:Hid (∀ W,Fr wr W→Calls Tryz.prog 28 #[.agg #[.int .i64 x.kd,.int .i64 x.nm,.string ⟨x.tx.toArray⟩,.slice D x.ls.length g,.slice D' x.ms.length g'],.slice P ps.length c1,.agg #[.int .i64 u.kd,.int .i64 u.nm,.string ⟨u.tx.toArray⟩,.slice E u.ls.length e,.slice E' u.ms.length e']] W fun en w'=>(∃ (D9:Option Addr) (g9:Nat),en=.returned (.agg #[.int .i64 6,.int .i64 0,.string ⟨#[]⟩,.slice none 0 0,.slice D9 lm.length g9])∧InV w' (NeS (fun b=>b<wr.heap.size∧b≠X1) W w') (JV.mapV lm) (.agg #[.int .i64 6,.int .i64 0,.string ⟨#[]⟩,.slice none 0 0,.slice D9 lm.length g9]))∧Fr W w'):=Lib.hid (fun W hW=>
      put_is ps hne x u D g D' g' E e E' e' P c1 W (fun b=>b<wr.heap.size∧b≠X1) (fun b hb=>Nat.lt_of_lt_of_le hb.1 hW.size) (hI.out.keepS (fun b hb=>hb.1) hW) (hui.keepS (fun b hb=>hb.1) hW) ((hpp.toC (fun b hb=>hb.1)).keep hW) hcc1.1 hcc1.2 htx hps2 hnx lm hlm)
     have HL1:Hid (X1<wr.heap.size∧W2.heap.size≤wr.heap.size):=Lib.hid ⟨hB.out.lt,hsz⟩
     clear hb1 hcc1 hpp hui hpe hue hlm hstep hne hps2 htx hnx hsz
     go_upto_region 7 with fail
     have hb6:=Blk.made wr #[.slice P ps.length c1,.int .i64 u.kd,.int .i64 u.nm,.string ⟨u.tx.toArray⟩,.slice E u.ls.length e,.slice E' u.ms.length e'] 57
     have hf6:Fr wr (wr.alloc (.cells #[.slice P ps.length c1,.int .i64 u.kd,.int .i64 u.nm,.string ⟨u.tx.toArray⟩,.slice E u.ls.length e,.slice E' u.ms.length e'] 57)):=(Fr.refl wr).alloc _
     generalize (wr.alloc (.cells #[.slice P ps.length c1,.int .i64 u.kd,.int .i64 u.nm,.string ⟨u.tx.toArray⟩,.slice E u.ls.length e,.slice E' u.ms.length e'] 57))=W6 at hb6 hf6 ⊢
     have HL2:Hid (wr.heap.size≤W6.heap.size):=Lib.hid hf6.size
     generalize wr.heap.size=X6 at hb6 HL1 HL2 HPT ⊢
     obtain ⟨⟨z0,z1,z2,z3,z4,z5⟩,_⟩:=box6 hb6
     obtain ⟨⟨y0,y1,y2,y3,y4⟩,_⟩:=box5 (hB.out.keep hf6)
     have HF6:=Lib.hid hf6
     clear hb6 hf6 m0 m1 m2 m3 m4 m5
     go_wp2_with (go_at_call 28;refine (HPT.out _ HF6.out).mono ?_;rintro en w8 ⟨⟨D9,g9,rfl,hi9⟩,hf⟩;have HI9:=Lib.hid hi9;have HF8:Hid (Fr W6 w8):=Lib.hid hf;have hb:=hB.out.keep (HF6.out.trans hf);obtain ⟨⟨q0,q1,q2,q3,q4⟩,qf0,qf1,qf2,qf3,qf4⟩:=box5 hb;have HB8:=Lib.hid hb;clear hf hi9 hb)
     have h68:=HF8.out.size
     have h1:=HL1.out.1
     have h2:=HL2.out
     exact ⟨⟨i+1,JV.mapV lm,none,0,D9,g9,by omega,by go_num,Lib.hid HST.out.symm,Lib.hid ((hF.out.fr (HF6.out.trans HF8.out)).trans (st5_frx w8 X1 _ _ _ _ _)),Lib.hid (set5 HB8.out),Lib.hid (HI9.out.map (fun b hb=>by
      rcases hb with hb | hb
      ·have:=hb.1
       exact ⟨Nat.lt_of_lt_of_le (by omega) (st5_frx w8 X1 _ _ _ _ _).size,hb.2⟩
      ·have:=hb.1
       have:=hb.2
       exact ⟨Nat.lt_of_lt_of_le (by omega) (st5_frx w8 X1 _ _ _ _ _).size,by omega⟩) (fun b o hb=>(st5_frx w8 X1 _ _ _ _ _).cell (by
      rcases hb with hb | hb
      ·have:=hb.1
       omega
      ·exact hb.2) (by
      rcases hb with hb | hb
      ·exact hb.2
      ·have:=hb.1
       omega)))⟩,by simp [intOf];omega⟩
    ·obtain rfl:i=l.length:=by omega
     have hxe:x=Pc.putL v l:=by rw [hX.out,List.take_length]
     have hnx:Rd.nv x≤1048576:=by rw [hX.out];exact HNV2.out _
     have HRX:Hid (R=some x):=Lib.hid (by rw [hxe];exact HRE.out)
     have HCP:Hid (∀ W,Fr wr W→Calls Tryz.prog 17 #[.agg #[.int .i64 x.kd,.int .i64 x.nm,.string ⟨x.tx.toArray⟩,.slice D x.ls.length g,.slice D' x.ms.length g']] W fun en w'=>(∃ (E:Option Addr) (e:Nat) (E':Option Addr) (e':Nat),en=.returned (.agg #[.int .i64 x.kd,.int .i64 x.nm,.string ⟨x.tx.toArray⟩,.slice E x.ls.length e,.slice E' x.ms.length e'])∧InV w' (SB W.heap.size w') x (vA x E e E' e')∧OwnV w' W.heap.size x E')∧Fr W w'):=Lib.hid (fun W hW=>copyO_is x (vA x D g D' g') W ((hI.out.keepS (fun b hb=>hb.1) hW).more (fun b hb=>Nat.lt_of_lt_of_le hb.1 hW.size)) hnx)
     have hfr:Fr w wr:=Fr.thenY HFW2.out (show w.heap.size≤X1 by rw [HX1.out];exact Nat.le_refl _) (by have:=HXW.out;omega) hF.out
     have HFR:=Lib.hid hfr
     have HB4R:Hid (Blk wr X4 #[.int .i64 0,.int .i64 0,.string ⟨#[]⟩,.slice none 0 0,.slice none 0 0] 25):=Lib.hid (HB42.out.frx hF.out (show X4≠X1 by have:=HXW.out;omega))
     have HXR:Hid (w.heap.size≤X4∧X4<wr.heap.size):=Lib.hid ⟨by have:=HX1.out;have:=HXW.out;omega,HB4R.out.lt⟩
     obtain ⟨⟨y0,y1,y2,y3,y4⟩,_⟩:=box5 hB.out
     clear hxe hnx hfr
     go_wp2_with (go_at_call 17;refine (HCP.out _ (Fr.refl wr)).mono ?_;rintro en w9 ⟨⟨E,e,E',e',rfl,hi9,ho9⟩,hf⟩;have HI9:=Lib.hid hi9;have HO9:=Lib.hid ho9;have HF9:Hid (Fr wr w9):=Lib.hid hf;have hb:=HB4R.out.keep hf;obtain ⟨⟨q0,q1,q2,q3,q4⟩,qf0,qf1,qf2,qf3,qf4⟩:=box5 hb;have HB9:=Lib.hid hb;clear hf hi9 ho9 hb)
     refine bodyPost_ret (results_cs (by rfl) rfl _ X4 (by rfl) (by rfl) _ _ _ _ _ (set5 HB9.out)) rfl ?_
     rw [HRX.out]
     have h1:=HXR.out
     have h2:=HFR.out.size
     refine ⟨⟨E,e,E',e',rfl,?_,?_⟩,(HFR.out.trans HF9.out).put5 (by omega) _ _ _ _ _⟩
     ·exact HI9.out.map (fun b hb=>hb.frx (st5_frx w9 X4 _ _ _ _ _) (by have:=hb.1.1;omega) (fun _=>by have:=hb.1.1;omega)) (fun b o hb=>(st5_frx w9 X4 _ _ _ _ _).cell hb.1.2 (by have:=hb.1.1;omega))
     ·exact HO9.out.frx (st5_frx w9 X4 _ _ _ _ _) h1.2 h2
end Go.Proofs.YtlmcfhokfiibkaaGreatDoor
