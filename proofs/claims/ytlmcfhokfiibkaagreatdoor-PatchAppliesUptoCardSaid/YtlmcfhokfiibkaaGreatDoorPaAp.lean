/- Chapter 09: the document's Apply. -/
import Derived.Test.YtlmcfhokfiibkaaGreatDoorPdf
import Derived.Test.YtlmcfhokfiibkaaGreatDoorPcd
namespace Go.Proofs.YtlmcfhokfiibkaaGreatDoor
set_option maxRecDepth 100000
set_option maxHeartbeats 4000000
set_option linter.unusedVariables false
set_option linter.unusedSimpArgs false
open Go.RowKit

def ApR (w:World):Option JV→Ending→World→Prop
 | none,e,w'=>e=.returned (.tuple #[.agg #[.int .i64 0,.int .i64 0,.string ⟨#[]⟩,.slice none 0 0,.slice none 0 0],.int .i64 90])∧Fr w w'
 | some x,e,w'=>(∃ (D:Option Addr) (g:Nat) (D':Option Addr) (g':Nat),e=.returned (.tuple #[.agg #[.int .i64 x.kd,.int .i64 x.nm,.string ⟨x.tx.toArray⟩,.slice D x.ls.length g,.slice D' x.ms.length g'],.int .i64 0])∧InV w' (Lo w'.heap.size) x (vA x D g D' g'))∧Fr w w'
theorem Pc.apply_fits (v p:JV):(Pc.fitsP v p=false∧Pc.apply v p=none) ∨ ∃ l,Pc.fitsP v p=true∧Pc.chg p=some l∧Pc.fits v l=true∧Pc.apply v p=some (Pc.putL v l):=by
 unfold Pc.fitsP Pc.apply
 cases hc:Pc.chg p with
 | none=>exact .inl ⟨rfl,rfl⟩
 | some l=>
  by_cases hf:Pc.fits v l=true
  ·exact .inr ⟨l,hf,rfl,hf,by show (if Pc.fits v l=true then _ else _)=_;rw [if_pos hf]⟩
  ·refine .inl ⟨?_,by show (if Pc.fits v l=true then _ else _)=_;rw [if_neg hf]⟩
   show Pc.fits v l=false
   cases h:Pc.fits v l with
   | false=>rfl
   | true=>exact absurd h hf
theorem rapply_is (v p:JV) (B:Option Addr) (d:Nat) (B':Option Addr) (d':Nat) (C:Option Addr) (f:Nat) (C':Option Addr) (f':Nat) (w:World) (hv:InV w (Lo w.heap.size) v (vA v B d B' d')) (hp:InV w (Lo w.heap.size) p (vA p C f C' f')) (hbk:JV.bulk p≤1048576) (hM:MxL w) (hnv:∀ l,Pc.chg p=some l→Pc.fits v l=true → ∀ k,Rd.nv (Pc.putL v (l.take k))≤1048576):
  Calls Tryz.prog 12 #[.agg #[.int .i64 v.kd,.int .i64 v.nm,.string ⟨v.tx.toArray⟩,.slice B v.ls.length d,.slice B' v.ms.length d'],.agg #[.int .i64 p.kd,.int .i64 p.nm,.string ⟨p.tx.toArray⟩,.slice C p.ls.length f,.slice C' p.ms.length f']] w (ApR w (Pc.apply v p)):=by
 obtain ⟨R,hR⟩:∃ R,Pc.apply v p=R:=⟨_,rfl⟩
 have HFT0:Hid (∀ W,Fr w W→Calls Tryz.prog 15 #[.agg #[.int .i64 v.kd,.int .i64 v.nm,.string ⟨v.tx.toArray⟩,.slice B v.ls.length d,.slice B' v.ms.length d'],.agg #[.int .i64 p.kd,.int .i64 p.nm,.string ⟨p.tx.toArray⟩,.slice C p.ls.length f,.slice C' p.ms.length f']] W fun e w'=>e=.returned (.bool (Pc.fitsP v p))∧Fr W w'):=Lib.hid (fun W hW=>rfits_is v p B d B' d' C f C' f' W ((hv.keep (Nat.le_refl _) hW).lo hW.size) ((hp.keep (Nat.le_refl _) hW).lo hW.size) hbk (hM.keep hW))
 rcases Pc.apply_fits v p with ⟨hfp,hap⟩ | ⟨l,hfp,hcl,hfl,hap⟩
 ·rw [hfp] at HFT0
  rw [hap] at hR ⊢
  have HFT:=HFT0
  clear hv hp hbk hM hnv hfp hap hR HFT0
  go_enter Tryz.func12,Tryz.ntmps12
  go_upto_region 1 with fail
  have hb1:Blk (((w.alloc (.cells #[.int .i64 v.kd,.int .i64 v.nm,.string ⟨v.tx.toArray⟩,.slice B v.ls.length d,.slice B' v.ms.length d'] 25)).alloc (.cells #[.int .i64 p.kd,.int .i64 p.nm,.string ⟨p.tx.toArray⟩,.slice C p.ls.length f,.slice C' p.ms.length f'] 25)).alloc (.cells #[.int .i64 0,.int .i64 0,.string ⟨#[]⟩,.slice none 0 0,.slice none 0 0] 25)) w.heap.size #[.int .i64 v.kd,.int .i64 v.nm,.string ⟨v.tx.toArray⟩,.slice B v.ls.length d,.slice B' v.ms.length d'] 25:=((Blk.made w _ _).keep ((Fr.refl _).alloc _)).keep ((Fr.refl _).alloc _)
  have hb2:Blk (((w.alloc (.cells #[.int .i64 v.kd,.int .i64 v.nm,.string ⟨v.tx.toArray⟩,.slice B v.ls.length d,.slice B' v.ms.length d'] 25)).alloc (.cells #[.int .i64 p.kd,.int .i64 p.nm,.string ⟨p.tx.toArray⟩,.slice C p.ls.length f,.slice C' p.ms.length f'] 25)).alloc (.cells #[.int .i64 0,.int .i64 0,.string ⟨#[]⟩,.slice none 0 0,.slice none 0 0] 25)) (w.heap.size+1) #[.int .i64 p.kd,.int .i64 p.nm,.string ⟨p.tx.toArray⟩,.slice C p.ls.length f,.slice C' p.ms.length f'] 25:=(boxz (Blk.made (w.alloc _) _ _)).keep ((Fr.refl _).alloc _)
  have hb4:Blk (((w.alloc (.cells #[.int .i64 v.kd,.int .i64 v.nm,.string ⟨v.tx.toArray⟩,.slice B v.ls.length d,.slice B' v.ms.length d'] 25)).alloc (.cells #[.int .i64 p.kd,.int .i64 p.nm,.string ⟨p.tx.toArray⟩,.slice C p.ls.length f,.slice C' p.ms.length f'] 25)).alloc (.cells #[.int .i64 0,.int .i64 0,.string ⟨#[]⟩,.slice none 0 0,.slice none 0 0] 25)) (w.heap.size+1+1) #[.int .i64 0,.int .i64 0,.string ⟨#[]⟩,.slice none 0 0,.slice none 0 0] 25:=boxz2 (Blk.made ((w.alloc _).alloc _) _ _)
  have hf0:Fr w (((w.alloc (.cells #[.int .i64 v.kd,.int .i64 v.nm,.string ⟨v.tx.toArray⟩,.slice B v.ls.length d,.slice B' v.ms.length d'] 25)).alloc (.cells #[.int .i64 p.kd,.int .i64 p.nm,.string ⟨p.tx.toArray⟩,.slice C p.ls.length f,.slice C' p.ms.length f'] 25)).alloc (.cells #[.int .i64 0,.int .i64 0,.string ⟨#[]⟩,.slice none 0 0,.slice none 0 0] 25)):=(((Fr.refl w).alloc _).alloc _).alloc _
  generalize (((w.alloc (.cells #[.int .i64 v.kd,.int .i64 v.nm,.string ⟨v.tx.toArray⟩,.slice B v.ls.length d,.slice B' v.ms.length d'] 25)).alloc (.cells #[.int .i64 p.kd,.int .i64 p.nm,.string ⟨p.tx.toArray⟩,.slice C p.ls.length f,.slice C' p.ms.length f'] 25)).alloc (.cells #[.int .i64 0,.int .i64 0,.string ⟨#[]⟩,.slice none 0 0,.slice none 0 0] 25))=W0 at hb1 hb2 hb4 hf0 ⊢
  have HXX:Hid (w.heap.size<w.heap.size+1+1∧w.heap.size+1+1<W0.heap.size):=Lib.hid ⟨by omega,hb4.lt⟩
  generalize w.heap.size+1+1=X4 at hb4 HXX ⊢
  have hx21:w.heap.size+1≠w.heap.size:=by omega
  generalize w.heap.size+1=X2 at hb2 hx21 ⊢
  obtain ⟨X1,hX1⟩:∃ X,w.heap.size=X:=⟨_,rfl⟩
  have HX1:=Lib.hid hX1
  rw [hX1] at hb1 HXX hx21 ⊢
  clear hX1
  have HB1:=Lib.hid hb1
  have HB2:=Lib.hid hb2
  have HB4:=Lib.hid hb4
  have HF0:=Lib.hid hf0
  obtain ⟨⟨y0,y1,y2,y3,y4⟩,_⟩:=box5 hb2
  clear hb1 hb2 hb4 hf0
  clear y0 y1 y2 y3 y4
  obtain ⟨⟨z0,z1,z2,z3,z4⟩,_⟩:=box5 HB1.out
  obtain ⟨⟨y0,y1,y2,y3,y4⟩,_⟩:=box5 HB2.out
  go_wp2_with (go_at_call 15;refine (HFT.out _ HF0.out).mono ?_;rintro e w1 ⟨rfl,hf⟩;have HF9:Hid (Fr w w1):=Lib.hid (HF0.out.trans hf);have hb:=HB4.out.keep hf;obtain ⟨⟨x0,x1,x2,x3,x4⟩,g0,g1,g2,g3,g4⟩:=box5 hb;have HB9:=Lib.hid hb;clear hf hb)
  refine bodyPost_ret (results_cs (by rfl) rfl _ X4 (by rfl) (by rfl) _ _ _ _ _ (set5 HB9.out)) rfl ?_
  exact ⟨rfl,HF9.out.put5 (by have:=HXX.out;have:=HX1.out;omega) _ _ _ _ _⟩
 ·rw [hfp] at HFT0
  rw [hap] at hR ⊢
  have HFT:=HFT0
  have hlk:=Pc.likes hcl hbk
  have hcm:=(Pc.chg_some hcl).2.2
  have hll:=Pc.chgM_len hcm
  have HLK:=Lib.hid hlk
  have HLL:=Lib.hid hll
  have HGT:=Lib.hid (Pc.chgM_get hcm)
  have HNV:=Lib.hid (hnv l hcl hfl)
  have HKV:=Lib.hid hv
  have HNM:Hid (∀ y∈p.ms,7+y.1.length≤1048576):=Lib.hid (fun y hy=>by have:=(Pc.bulk_mem hy).1;omega)
  have hpl':(p.ms.length:Int)≤400:=by have:=hlk.len;omega
  obtain ⟨E9,c9,E9',c9',hvA,_,hms⟩:=hp.open_
  have hE9:C'=E9':=by
   simp only [vA,Value.agg.injEq] at hvA
   have h4:=congrArg (fun q:Array Value=>q.getD 4 undef) hvA
   simp at h4
   exact h4.1
  subst hE9
  have HMS:=Lib.hid hms
  clear hv hp hbk hM hnv hfp hap hR HFT0 hlk hcm hll hcl hfl hvA hms
  go_enter Tryz.func12,Tryz.ntmps12
  go_upto_region 1 with fail
  have hb1:Blk (((w.alloc (.cells #[.int .i64 v.kd,.int .i64 v.nm,.string ⟨v.tx.toArray⟩,.slice B v.ls.length d,.slice B' v.ms.length d'] 25)).alloc (.cells #[.int .i64 p.kd,.int .i64 p.nm,.string ⟨p.tx.toArray⟩,.slice C p.ls.length f,.slice C' p.ms.length f'] 25)).alloc (.cells #[.int .i64 0,.int .i64 0,.string ⟨#[]⟩,.slice none 0 0,.slice none 0 0] 25)) w.heap.size #[.int .i64 v.kd,.int .i64 v.nm,.string ⟨v.tx.toArray⟩,.slice B v.ls.length d,.slice B' v.ms.length d'] 25:=((Blk.made w _ _).keep ((Fr.refl _).alloc _)).keep ((Fr.refl _).alloc _)
  have hb2:Blk (((w.alloc (.cells #[.int .i64 v.kd,.int .i64 v.nm,.string ⟨v.tx.toArray⟩,.slice B v.ls.length d,.slice B' v.ms.length d'] 25)).alloc (.cells #[.int .i64 p.kd,.int .i64 p.nm,.string ⟨p.tx.toArray⟩,.slice C p.ls.length f,.slice C' p.ms.length f'] 25)).alloc (.cells #[.int .i64 0,.int .i64 0,.string ⟨#[]⟩,.slice none 0 0,.slice none 0 0] 25)) (w.heap.size+1) #[.int .i64 p.kd,.int .i64 p.nm,.string ⟨p.tx.toArray⟩,.slice C p.ls.length f,.slice C' p.ms.length f'] 25:=(boxz (Blk.made (w.alloc _) _ _)).keep ((Fr.refl _).alloc _)
  have hb4:Blk (((w.alloc (.cells #[.int .i64 v.kd,.int .i64 v.nm,.string ⟨v.tx.toArray⟩,.slice B v.ls.length d,.slice B' v.ms.length d'] 25)).alloc (.cells #[.int .i64 p.kd,.int .i64 p.nm,.string ⟨p.tx.toArray⟩,.slice C p.ls.length f,.slice C' p.ms.length f'] 25)).alloc (.cells #[.int .i64 0,.int .i64 0,.string ⟨#[]⟩,.slice none 0 0,.slice none 0 0] 25)) (w.heap.size+1+1) #[.int .i64 0,.int .i64 0,.string ⟨#[]⟩,.slice none 0 0,.slice none 0 0] 25:=boxz2 (Blk.made ((w.alloc _).alloc _) _ _)
  have hf0:Fr w (((w.alloc (.cells #[.int .i64 v.kd,.int .i64 v.nm,.string ⟨v.tx.toArray⟩,.slice B v.ls.length d,.slice B' v.ms.length d'] 25)).alloc (.cells #[.int .i64 p.kd,.int .i64 p.nm,.string ⟨p.tx.toArray⟩,.slice C p.ls.length f,.slice C' p.ms.length f'] 25)).alloc (.cells #[.int .i64 0,.int .i64 0,.string ⟨#[]⟩,.slice none 0 0,.slice none 0 0] 25)):=(((Fr.refl w).alloc _).alloc _).alloc _
  generalize (((w.alloc (.cells #[.int .i64 v.kd,.int .i64 v.nm,.string ⟨v.tx.toArray⟩,.slice B v.ls.length d,.slice B' v.ms.length d'] 25)).alloc (.cells #[.int .i64 p.kd,.int .i64 p.nm,.string ⟨p.tx.toArray⟩,.slice C p.ls.length f,.slice C' p.ms.length f'] 25)).alloc (.cells #[.int .i64 0,.int .i64 0,.string ⟨#[]⟩,.slice none 0 0,.slice none 0 0] 25))=W0 at hb1 hb2 hb4 hf0 ⊢
  have HXX:Hid (w.heap.size<w.heap.size+1+1∧w.heap.size+1+1<W0.heap.size):=Lib.hid ⟨by omega,hb4.lt⟩
  generalize w.heap.size+1+1=X4 at hb4 HXX ⊢
  have hx21:w.heap.size+1≠w.heap.size:=by omega
  generalize w.heap.size+1=X2 at hb2 hx21 ⊢
  obtain ⟨X1,hX1⟩:∃ X,w.heap.size=X:=⟨_,rfl⟩
  have HX1:=Lib.hid hX1
  rw [hX1] at hb1 HXX hx21 ⊢
  clear hX1
  have HB1:=Lib.hid hb1
  have HB2:=Lib.hid hb2
  have HB4:=Lib.hid hb4
  have HF0:=Lib.hid hf0
  obtain ⟨⟨y0,y1,y2,y3,y4⟩,_⟩:=box5 hb2
  clear hb1 hb2 hb4 hf0
  clear y0 y1 y2 y3 y4
  obtain ⟨⟨z0,z1,z2,z3,z4⟩,_⟩:=box5 HB1.out
  obtain ⟨⟨y0,y1,y2,y3,y4⟩,_⟩:=box5 HB2.out
  go_upto_region 3 with (go_at_call 15;refine (HFT.out _ HF0.out).mono ?_;rintro e w2 ⟨rfl,hf⟩;have HF02:=Lib.hid hf;clear hf)
  clear y0 y1 y2 y3 y4 z0 z1 z2 z3 z4
  obtain ⟨W2,hW2⟩:∃ W,W=w2:=⟨w2,rfl⟩
  subst hW2
  have HFW:=Lib.hid (HF0.out.trans HF02.out)
  have HXW:Hid (w.heap.size=X1∧X1<X4∧X4<W2.heap.size):=Lib.hid ⟨HX1.out,HXX.out.1,Nat.lt_of_lt_of_le HXX.out.2 HF02.out.size⟩
  have HB12:=Lib.hid (HB1.out.keep HF02.out)
  have HB22:=Lib.hid (HB2.out.keep HF02.out)
  have HB42:=Lib.hid (HB4.out.keep HF02.out)
  have HX21:=Lib.hid hx21
  have HI2:Hid (InV W2 (fun b=>b<W2.heap.size∧(b≠X1∧b≠X4)) v (vA v B d B' d')):=Lib.hid ((HKV.out.keep (Nat.le_refl _) HFW.out).more (fun b hb=>by
   have:b<w.heap.size:=hb
   have h3:=HXW.out
   exact ⟨by omega,by omega,by omega⟩))
  obtain ⟨⟨y0,y1,y2,y3,y4⟩,_⟩:=box5 HB22.out
  clear HB1 HB2 HB4 HXX HFT HKV hx21
  go_wp2_with fail
  clear y0 y1 y2 y3 y4
  go_loopw [6] (fun j wr=>∃ (i:Nat) (x:JV) (D:Option Addr) (g:Nat) (D':Option Addr) (g':Nat),i≤p.ms.length∧j=.int .i64 i∧Hid (x=Pc.putL v (l.take i))∧Hid (FrX X1 W2 wr)∧Hid (Blk wr X1 #[.int .i64 x.kd,.int .i64 x.nm,.string ⟨x.tx.toArray⟩,.slice D x.ls.length g,.slice D' x.ms.length g'] 25)∧Hid (InV wr (fun b=>b<wr.heap.size∧(b≠X1∧b≠X4)) x (vA x D g D' g'))) (fun j _=>p.ms.length - (intOf j).toNat)
  case atStart=>exact ⟨0,v,B,d,B',d',by omega,rfl,Lib.hid rfl,Lib.hid (FrX.refl X1 W2),HB12,HI2⟩
  case round=>
   obtain ⟨i,x,D,g,D',g',hi,rfl,hX,hF,hB,hI⟩:=hrel
   have hfr:Fr w wr:=Fr.thenY HFW.out (show w.heap.size≤X1 by have:=HXW.out;omega) (by have:=HXW.out;omega) hF.out
   have HFR:=Lib.hid hfr
   have hb2:=HB22.out.frx hF.out HX21.out
   have HB2R:=Lib.hid hb2
   obtain ⟨⟨y0,y1,y2,y3,y4⟩,_⟩:=box5 hb2
   clear hb2 hfr
   by_cases hlt:i<p.ms.length
   ·have hlt':(i:Int)<(p.ms.length:Int):=by omega
    have hil:i<l.length:=by have:=HLL.out;omega
    have hlk:=HLK.out
    have hnx:Rd.nv x≤1048576:=by rw [hX.out];exact HNV.out i
    have hstep:Pc.put x l[i].1 l[i].2=Pc.putL v (l.take (i+1)):=by rw [Pc.putL_take hil,hX.out]
    obtain ⟨bm,om,E,e,E',e',rfl,hbm,_,m0,⟨m1,m2,m3,m4,m5⟩,hui⟩:=(HMS.out.keep (Nat.le_refl _) HFR.out) i hlt
    obtain ⟨hgt,hg2⟩:=HGT.out i hlt hil
    have hnl:=HNM.out _ (List.getElem_mem hlt)
    have hne:=hlk.ne _ (List.getElem_mem hil)
    have hps2:=hlk.short _ (List.getElem_mem hil)
    have htx:=hlk.texts _ (List.getElem_mem hil)
    rw [hg2] at hstep
    obtain ⟨ps,hpe⟩:∃ ps,l[i].1=ps:=⟨_,rfl⟩
    rw [hpe] at hgt hne hps2 htx hstep
    obtain ⟨pu,hpu⟩:∃ pu,p.ms[i]=pu:=⟨_,rfl⟩
    rw [hpu] at m0 m1 m2 m3 m4 m5 hui hgt hnl hstep
    obtain ⟨nm,u⟩:=pu
    simp only at m0 m1 m2 m3 m4 m5 hui hgt hnl hstep
    obtain ⟨lm,hlm⟩:=Pc.put_map x u ps hne
    have HST:Hid (Pc.putL v (l.take (i+1))=JV.mapV lm):=Lib.hid (by rw [← hstep];exact hlm)
    have HPP:Hid (∀ W S,S=(⟨#[47]⟩:ByteArray)++⟨nm.toArray⟩→Calls Tryz.prog 29 #[.string S] W (PtsP W (some ps))):=Lib.hid (fun W S hS=>by
     have hd:S.data.toList=47::nm:=by rw [hS];simp [ByteArray.data_append]
     have hz:S.size<4294967281:=by
      have:S.size=S.data.toList.length:=by simp
      rw [this,hd];simp;omega
     have:=rparts_is S W hz
     rwa [hd,hgt] at this)
    have hzz:¬ 9223372036854775807<1+nm.length:=by omega
    have HPT0:Hid (∀ W P q,Fr wr W→PsC W P ps→ps.length≤q→q≤9223372036854775807→Calls Tryz.prog 30 #[.agg #[.int .i64 x.kd,.int .i64 x.nm,.string ⟨x.tx.toArray⟩,.slice D x.ls.length g,.slice D' x.ms.length g'],.slice P ps.length q,.agg #[.int .i64 u.kd,.int .i64 u.nm,.string ⟨u.tx.toArray⟩,.slice E u.ls.length e,.slice E' u.ms.length e']] W fun en w'=>(∃ (D9:Option Addr) (g9:Nat),en=.returned (.agg #[.int .i64 6,.int .i64 0,.string ⟨#[]⟩,.slice none 0 0,.slice D9 lm.length g9])∧InV w' (NeS (fun b=>b<wr.heap.size∧(b≠X1∧b≠X4)) W w') (JV.mapV lm) (.agg #[.int .i64 6,.int .i64 0,.string ⟨#[]⟩,.slice none 0 0,.slice D9 lm.length g9]))∧Fr W w'):=Lib.hid (fun W P q hW hP h1 h2=>
     rput_is ps hne x u D g D' g' E e E' e' P q W (fun b=>b<wr.heap.size∧(b≠X1∧b≠X4)) (fun b hb=>Nat.lt_of_lt_of_le hb.1 hW.size) (hI.out.keepS (fun b hb=>hb.1) hW) ((hui.keep HFR.out.size hW).more (fun b hb=>by
      have:b<w.heap.size:=hb
      have h3:=HXW.out
      have h4:=HFR.out.size
      exact ⟨by omega,by omega,by omega⟩)) hP h1 h2 (fun s hs=>by have:=htx s hs;omega) hps2 hnx lm hlm)
    have HCM:Hid (∀ W,Fr wr W→W.cell? ⟨X1,0,none⟩=some (.int .i64 x.kd)∧W.cell? ⟨X1,1,none⟩=some (.int .i64 x.nm)∧W.cell? ⟨X1,2,none⟩=some (.string ⟨x.tx.toArray⟩)∧W.cell? ⟨X1,3,none⟩=some (.slice D x.ls.length g)∧W.cell? ⟨X1,4,none⟩=some (.slice D' x.ms.length g')∧W.cell? ⟨X2,4,none⟩=some (.slice (some ⟨bm,om,none⟩) p.ms.length f')∧W.cell? ⟨bm,om+i*6+1,none⟩=some (.int .i64 u.kd)∧W.cell? ⟨bm,om+i*6+1+1,none⟩=some (.int .i64 u.nm)∧W.cell? ⟨bm,om+i*6+1+2,none⟩=some (.string ⟨u.tx.toArray⟩)∧W.cell? ⟨bm,om+i*6+1+3,none⟩=some (.slice E u.ls.length e)∧W.cell? ⟨bm,om+i*6+1+4,none⟩=some (.slice E' u.ms.length e')):=Lib.hid (fun W hW=>by
     have a:=hB.out.keep hW
     have hb':=Nat.lt_of_lt_of_le hbm HFR.out.size
     exact ⟨a.cell 0,a.cell 1,a.cell 2,a.cell 3,a.cell 4,(HB2R.out.keep hW).cell 4,(hW.cell hb').trans m1,(hW.cell hb').trans m2,(hW.cell hb').trans m3,(hW.cell hb').trans m4,(hW.cell hb').trans m5⟩)
    have HL1:Hid (X1<wr.heap.size∧W2.heap.size≤wr.heap.size):=Lib.hid ⟨hB.out.lt,hF.out.size⟩
    clear hui hgt hg2 hpe hpu hlm hstep hne hps2 htx hnx hnl hlk m1 m2 m3 m4 m5 hbm
    go_upto_region 7 with (go_at_call 29;refine (HPP.out _ _ rfl).mono ?_;intro en w7 hh;obtain ⟨⟨P7,c7,rfl,hps,hss,hca,hcb⟩,hf⟩:=PtsP.some2 hh;have HPS:=Lib.hid hps;have HCC:=Lib.hid (And.intro hca hcb);have HF7:=Lib.hid hf;clear hf hh hps hss hca hcb)
    clear y0 y1 y2 y3 y4 m0
    have HPT:Hid (∀ W,Fr w7 W→Calls Tryz.prog 30 #[.agg #[.int .i64 x.kd,.int .i64 x.nm,.string ⟨x.tx.toArray⟩,.slice D x.ls.length g,.slice D' x.ms.length g'],.slice P7 ps.length c7,.agg #[.int .i64 u.kd,.int .i64 u.nm,.string ⟨u.tx.toArray⟩,.slice E u.ls.length e,.slice E' u.ms.length e']] W fun en w'=>(∃ (D9:Option Addr) (g9:Nat),en=.returned (.agg #[.int .i64 6,.int .i64 0,.string ⟨#[]⟩,.slice none 0 0,.slice D9 lm.length g9])∧InV w' (NeS (fun b=>b<wr.heap.size∧(b≠X1∧b≠X4)) W w') (JV.mapV lm) (.agg #[.int .i64 6,.int .i64 0,.string ⟨#[]⟩,.slice none 0 0,.slice D9 lm.length g9]))∧Fr W w'):=Lib.hid (fun W hW=>HPT0.out W P7 c7 (HF7.out.trans hW) (HPS.out.keep hW) HCC.out.1 HCC.out.2)
    have HS7:Hid (∀ W,Fr w7 W→W.cell? ⟨X1,0,none⟩=some (.int .i64 x.kd)∧W.cell? ⟨X1,1,none⟩=some (.int .i64 x.nm)∧W.cell? ⟨X1,2,none⟩=some (.string ⟨x.tx.toArray⟩)∧W.cell? ⟨X1,3,none⟩=some (.slice D x.ls.length g)∧W.cell? ⟨X1,4,none⟩=some (.slice D' x.ms.length g')∧W.cell? ⟨X2,4,none⟩=some (.slice (some ⟨bm,om,none⟩) p.ms.length f')∧W.cell? ⟨bm,om+i*6+1,none⟩=some (.int .i64 u.kd)∧W.cell? ⟨bm,om+i*6+1+1,none⟩=some (.int .i64 u.nm)∧W.cell? ⟨bm,om+i*6+1+2,none⟩=some (.string ⟨u.tx.toArray⟩)∧W.cell? ⟨bm,om+i*6+1+3,none⟩=some (.slice E u.ls.length e)∧W.cell? ⟨bm,om+i*6+1+4,none⟩=some (.slice E' u.ms.length e')):=Lib.hid (fun W hW=>HCM.out W (HF7.out.trans hW))
    have HB7:=Lib.hid (hB.out.keep HF7.out)
    clear HPT0 HCM
    go_upto_region 7 with fail
    refine OrdL.begin (x:=9) (fun W=>W.cell? ⟨X1,0,none⟩=some (.int .i64 x.kd)∧W.cell? ⟨X1,1,none⟩=some (.int .i64 x.nm)∧W.cell? ⟨X1,2,none⟩=some (.string ⟨x.tx.toArray⟩)∧W.cell? ⟨X1,3,none⟩=some (.slice D x.ls.length g)∧W.cell? ⟨X1,4,none⟩=some (.slice D' x.ms.length g')∧W.cell? ⟨X2,4,none⟩=some (.slice (some ⟨bm,om,none⟩) p.ms.length f')∧W.cell? ⟨bm,om+i*6+1,none⟩=some (.int .i64 u.kd)∧W.cell? ⟨bm,om+i*6+1+1,none⟩=some (.int .i64 u.nm)∧W.cell? ⟨bm,om+i*6+1+2,none⟩=some (.string ⟨u.tx.toArray⟩)∧W.cell? ⟨bm,om+i*6+1+3,none⟩=some (.slice E u.ls.length e)∧W.cell? ⟨bm,om+i*6+1+4,none⟩=some (.slice E' u.ms.length e')) (by kernel_rfl) ?_ (fun hH=>?_)
    ·exact HS7.out _ (Fr.refl _).drew
    refine lq 0 [8] rfl hH ?_
    try simp only [Act.put,fl]
    refine lq 1 [8] rfl hH ?_
    try simp only [Act.put,fl]
    refine lq 2 [3,5,6,7,8] rfl hH ?_
    try simp only [Act.put,fl]
    refine lq 3 [5,6,7,8] rfl hH ?_
    try simp only [Act.put,fl]
    refine lq 4 [5,6,7,8] rfl hH ?_
    try simp only [Act.put,fl]
    refine lq 5 [6,7,8] rfl hH ?_
    try simp only [Act.put,fl]
    refine lq 6 [7,8] rfl hH ?_
    try simp only [Act.put,fl]
    refine lq 7 [8] rfl hH ?_
    try simp only [Act.put,fl]
    refine OrdL.one (i:=8) rfl (by kernel_rfl) (by rfl) (fun K hK=>?_)
    (go_simp;go_at_call 30;refine (HPT.out _ (Fr.refl w7).drew).mono ?_;rintro en w8 ⟨⟨D9,g9,rfl,hi9⟩,hf⟩;have HI9:=Lib.hid hi9;have HF8:Hid (Fr w7 w8):=Lib.hid ((Fr.refl w7).drew.trans hf);clear hi9 hf)
    refine hK.out _ _ (HS7.out _ HF8.out) (fun hH3=>?_)
    clear hK K
    try simp only [Act.put,fl]
    have hb5:=HB7.out.keep HF8.out
    obtain ⟨⟨q0,q1,q2,q3,q4⟩,qf0,qf1,qf2,qf3,qf4⟩:=box5 hb5
    have HB8:=Lib.hid hb5
    clear hb5
    refine OrdL.last rfl (by kernel_rfl) (by kernel_rfl) (fun K hK=>?_)
    go_simp
    refine hK.out _ _ ?_
    clear hK K
    try simp only [Act.put,fl]
    go_wp2_with fail
    have h68:=HF8.out.size
    have h67:=HF7.out.size
    have hd7:w7.drew.heap.size=w7.heap.size:=rfl
    have h1:=HL1.out
    have h2:=HXW.out
    exact ⟨⟨i+1,JV.mapV lm,none,0,D9,g9,by omega,by go_num,Lib.hid HST.out.symm,Lib.hid ((hF.out.fr (HF7.out.trans HF8.out)).trans (st5_frx w8 X1 _ _ _ _ _)),Lib.hid (set5 HB8.out),Lib.hid (HI9.out.map (fun b hb=>by
     rcases hb with hb | hb
     ·have:=hb.1
      exact ⟨Nat.lt_of_lt_of_le (by omega) (st5_frx w8 X1 _ _ _ _ _).size,hb.2⟩
     ·have:=hb.1
      have:=hb.2
      exact ⟨Nat.lt_of_lt_of_le (by omega) (st5_frx w8 X1 _ _ _ _ _).size,by omega,by omega⟩) (fun b o hb=>(st5_frx w8 X1 _ _ _ _ _).cell (by
     rcases hb with hb | hb
     ·have:=hb.1
      omega
     ·exact hb.2) (by
     rcases hb with hb | hb
     ·exact hb.2.1
     ·have:=hb.1
      omega)))⟩,by simp [intOf];omega⟩
   ·obtain rfl:i=p.ms.length:=by omega
    have hxe:x=Pc.putL v l:=by
     have h1:=hX.out
     rw [show p.ms.length=l.length from HLL.out.symm,List.take_length] at h1
     exact h1
    have HXE:=Lib.hid hxe
    have HB4R:Hid (Blk wr X4 #[.int .i64 0,.int .i64 0,.string ⟨#[]⟩,.slice none 0 0,.slice none 0 0] 25):=Lib.hid (HB42.out.frx hF.out (show X4≠X1 by have:=HXW.out;omega))
    have HXR:Hid (w.heap.size≤X4∧X4<wr.heap.size):=Lib.hid ⟨by have:=HXW.out;omega,HB4R.out.lt⟩
    obtain ⟨⟨q0,q1,q2,q3,q4⟩,qf0,qf1,qf2,qf3,qf4⟩:=box5 HB4R.out
    obtain ⟨⟨z0,z1,z2,z3,z4⟩,_⟩:=box5 hB.out
    clear hxe
    go_wp2_with fail
    refine bodyPost_ret (results_cs (by rfl) rfl _ X4 (by rfl) (by rfl) _ _ _ _ _ (set5 HB4R.out)) rfl ?_
    rw [← HXE.out]
    have h1:=HXR.out
    refine ⟨⟨D,g,D',g',rfl,?_⟩,HFR.out.put5 (by omega) _ _ _ _ _⟩
    exact hI.out.map (fun b hb=>Nat.lt_of_lt_of_le hb.1 (st5_frx wr X4 _ _ _ _ _).size) (fun b o hb=>(st5_frx wr X4 _ _ _ _ _).cell hb.1 hb.2.2)
end Go.Proofs.YtlmcfhokfiibkaaGreatDoor
