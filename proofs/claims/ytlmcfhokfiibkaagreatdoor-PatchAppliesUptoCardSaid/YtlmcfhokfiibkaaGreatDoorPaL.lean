/- Chapter 09: the document's Without. -/
import Derived.Test.YtlmcfhokfiibkaaGreatDoorPcd
import Derived.Test.YtlmcfhokfiibkaaGreatDoorPcr
namespace Go.Proofs.YtlmcfhokfiibkaaGreatDoor
set_option maxRecDepth 100000
set_option maxHeartbeats 4000000
set_option linter.unusedVariables false
set_option linter.unusedSimpArgs false
open Go.RowKit

theorem wo_skip {m:List (List UInt8 × JV)} {s:List UInt8} {i:Nat} (h:i<m.length) (he:m[i].1=s):Bk.woM (m.take (i+1)) s=Bk.woM (m.take i) s:=by
 unfold Bk.woM
 rw [List.take_succ_eq_append_getElem h,List.filter_append,List.filter_cons_of_neg (by simp [he])]
 simp
theorem wo_succ {m:List (List UInt8 × JV)} {s:List UInt8} {i:Nat} (h:i<m.length) (he:m[i].1≠s):Bk.woM (m.take (i+1)) s=Bk.woM (m.take i) s++[m[i]]:=by
 unfold Bk.woM
 rw [List.take_succ_eq_append_getElem h,List.filter_append,List.filter_cons_of_pos (by simp [he])]
 rfl
theorem rwo_is (v:JV) (B:Option Addr) (d:Nat) (B':Option Addr) (d':Nat) (s:List UInt8) (w:World) (O:Nat→Prop) (hO:∀ b,O b→b<w.heap.size) (hv:InV w O v (vA v B d B' d')) (hn:Rd.nv v≤1048576) (l:List (List UInt8 × JV)) (hl:Bk.woM (Pc.mems v) s=l):
  Calls Tryz.prog 55 #[.agg #[.int .i64 v.kd,.int .i64 v.nm,.string ⟨v.tx.toArray⟩,.slice B v.ls.length d,.slice B' v.ms.length d'],.string ⟨s.toArray⟩] w fun e w'=>(∃ (D:Option Addr) (g:Nat),e=.returned (.agg #[.int .i64 6,.int .i64 0,.string ⟨#[]⟩,.slice none 0 0,(.slice D l.length g)])∧InV w' (NeS O w w') (JV.mapV l) (.agg #[.int .i64 6,.int .i64 0,.string ⟨#[]⟩,.slice none 0 0,(.slice D l.length g)]))∧Fr w w':=by
 have hml:=Cp.nvM_len v.ms
 have hnv:=Pt.nv_eq v
 have hmsl:(v.ms.length:Int)≤1048576:=by omega
 have HML:Hid (v.ms.length≤1048576):=Lib.hid (by omega)
 obtain ⟨E9,c9,E9',c9',hvA,_,hms⟩:=hv.open_
 have hE9:B'=E9':=by
  simp only [vA,Value.agg.injEq] at hvA
  have h4:=congrArg (fun q:Array Value=>q.getD 4 undef) hvA
  simp at h4
  exact h4.1
 subst hE9
 have HMS:Hid (∀ W,Fr w W→MsC W O B' v.ms):=Lib.hid (fun W hW=>hms.keepS hO hW)
 have HO:=Lib.hid hO
 have h6b:((v.kd == 6)=true∧Hid (Bk.woM v.ms s=l))∨((v.kd == 6)=false∧Hid (l=[])):=by
  unfold Pc.mems at hl
  by_cases h6:v.kd=6
  ·rw [if_pos h6] at hl
   exact .inl ⟨by rw [h6];rfl,Lib.hid hl⟩
  ·rw [if_neg h6] at hl
   exact .inr ⟨(ikind h6).1,Lib.hid hl.symm⟩
 clear hv hvA hms hn hml hnv hl hO
 go_enter Tryz.func55,Tryz.ntmps55
 go_upto_region 1 with fail
 have hb2:Blk ((w.alloc (.cells #[.int .i64 v.kd,.int .i64 v.nm,.string ⟨v.tx.toArray⟩,.slice B v.ls.length d,.slice B' v.ms.length d'] 25)).alloc (.cells #[.int .i64 0,.int .i64 0,.string ⟨#[]⟩,.slice none 0 0,.slice none 0 0] 25)) w.heap.size #[.int .i64 v.kd,.int .i64 v.nm,.string ⟨v.tx.toArray⟩,.slice B v.ls.length d,.slice B' v.ms.length d'] 25:=(Blk.made w _ _).keep ((Fr.refl _).alloc _)
 have hb4:Blk ((w.alloc (.cells #[.int .i64 v.kd,.int .i64 v.nm,.string ⟨v.tx.toArray⟩,.slice B v.ls.length d,.slice B' v.ms.length d'] 25)).alloc (.cells #[.int .i64 0,.int .i64 0,.string ⟨#[]⟩,.slice none 0 0,.slice none 0 0] 25)) (w.heap.size+1) #[.int .i64 0,.int .i64 0,.string ⟨#[]⟩,.slice none 0 0,.slice none 0 0] 25:=boxz (Blk.made (w.alloc _) _ _)
 have hf0:Fr w ((w.alloc (.cells #[.int .i64 v.kd,.int .i64 v.nm,.string ⟨v.tx.toArray⟩,.slice B v.ls.length d,.slice B' v.ms.length d'] 25)).alloc (.cells #[.int .i64 0,.int .i64 0,.string ⟨#[]⟩,.slice none 0 0,.slice none 0 0] 25)):=((Fr.refl w).alloc _).alloc _
 generalize ((w.alloc (.cells #[.int .i64 v.kd,.int .i64 v.nm,.string ⟨v.tx.toArray⟩,.slice B v.ls.length d,.slice B' v.ms.length d'] 25)).alloc (.cells #[.int .i64 0,.int .i64 0,.string ⟨#[]⟩,.slice none 0 0,.slice none 0 0] 25))=W0 at hb2 hb4 hf0 ⊢
 have hX4e:w.heap.size≤w.heap.size+1:=by omega
 generalize w.heap.size+1=X4 at hb4 hX4e ⊢
 obtain ⟨X2,hX2⟩:∃ X,w.heap.size=X:=⟨_,rfl⟩
 have HX2:=Lib.hid hX2
 rw [hX2] at hb2 ⊢
 clear hX2
 have HX4:Hid (w.heap.size≤X4∧X4<W0.heap.size):=Lib.hid ⟨hX4e,hb4.lt⟩
 have HB2:=Lib.hid hb2
 have HB4:=Lib.hid hb4
 have HF0:=Lib.hid hf0
 clear hb2 hb4 hf0 hX4e
 go_upto_region 2 with fail
 have hb5:=Blk.made W0 #[.int .i64 6,.int .i64 0,.string ⟨#[]⟩,.slice none 0 0,(.slice none 0 0)] 25
 have hk5:Fr W0 (W0.alloc (.cells #[.int .i64 6,.int .i64 0,.string ⟨#[]⟩,.slice none 0 0,(.slice none 0 0)] 25)):=(Fr.refl W0).alloc _
 generalize (W0.alloc (.cells #[.int .i64 6,.int .i64 0,.string ⟨#[]⟩,.slice none 0 0,(.slice none 0 0)] 25))=W3 at hb5 hk5 ⊢
 obtain ⟨X5,hX5⟩:∃ X,W0.heap.size=X:=⟨_,rfl⟩
 rw [hX5] at hb5 ⊢
 have HF03:Hid (Fr W0 W3):=Lib.hid hk5
 have HXX:Hid ((w.heap.size≤X5∧W0.heap.size=X5)∧(X2<X5∧X4<X5)∧X5<W3.heap.size):=Lib.hid ⟨⟨by have:=HF0.out.size;omega,hX5⟩,by have:=HB2.out.lt;have:=HB4.out.lt;omega,hb5.lt⟩
 have HO5:Hid (∀ b,O b→b≠X5):=Lib.hid (fun b hb=>by have:=HO.out b hb;have:=HXX.out;omega)
 have HB5:=Lib.hid hb5
 obtain ⟨⟨y0,y1,y2,y3,y4⟩,_⟩:=box5 (HB2.out.keep HF03.out)
 clear hb5 hk5 hX5
 go_wp2_with fail
 clear y0 y1 y2 y3 y4
 rcases h6b with ⟨q6,hlw⟩ | ⟨q6,hlw⟩
 ·go_loopw [6] (fun j wr=>∃ (i:Nat) (sv:Value),i≤v.ms.length∧j=.int .i64 i∧Hid (FrX X5 W3 wr)∧Hid (Blk wr X5 #[.int .i64 6,.int .i64 0,.string ⟨#[]⟩,.slice none 0 0,sv] 25)∧Hid (MgT wr O W3.heap.size sv (Bk.woM (v.ms.take i) s))) (fun j _=>v.ms.length - (intOf j).toNat)
  case atStart=>exact ⟨0,_,by omega,rfl,Lib.hid (FrX.refl X5 W3),HB5,Lib.hid (MgT.none_ _ ⟨fun b hb=>by have:=HO.out b hb;have:=HXX.out;omega,Nat.le_refl _⟩)⟩
  case round=>
   obtain ⟨i,sv,hi,rfl,hX,hB,hM⟩:=hrel
   have hb2:=(HB2.out.keep HF03.out).frx hX.out (by have:=HXX.out;omega)
   have hfr:Fr w wr:=Fr.thenY (HF0.out.trans HF03.out) HXX.out.1.1 (Nat.le_of_lt HXX.out.2.2) hX.out
   have HFR:=Lib.hid hfr
   obtain ⟨⟨y0,y1,y2,y3,y4⟩,_⟩:=box5 hb2
   by_cases hlt:i<v.ms.length
   ·have hlt':(i:Int)<(v.ms.length:Int):=by omega
    obtain ⟨bm,om,G,k,G',k',rfl,hbm,hnl,m0,⟨m1,m2,m3,m4,m5⟩,hiv⟩:=(HMS.out _ hfr) i hlt
    have hsk:=fun h=>@wo_skip v.ms s i hlt h
    have hsu:=fun h=>@wo_succ v.ms s i hlt h
    obtain ⟨pu,hpu⟩:∃ pu,v.ms[i]=pu:=⟨_,rfl⟩
    rw [hpu] at m0 m1 m2 m3 m4 m5 hiv hnl hsk hsu
    obtain ⟨nm,u⟩:=pu
    simp only at m0 m1 m2 m3 m4 m5 hiv hnl hsk hsu
    have HNL:Hid (nm.length≤140737488355328):=Lib.hid hnl
    by_cases he:nm=s
    ·have h2:=bl_beq' nm s
     rw [decide_eq_true he] at h2
     have h4:(nm != s)=false:=by simp [he]
     have h5:(nm == s)=true:=by simp [he]
     have HSK:=Lib.hid (hsk he)
     clear hnl hsk hsu hiv hpu he m1 m2 m3 m4 m5 hb2
     go_wp2_with fail
     exact ⟨⟨i+1,sv,by omega,by go_num,hX,hB,Lib.hid (by rw [HSK.out];exact hM.out)⟩,by simp [intOf];omega⟩
    ·have h2:=bl_beq' nm s
     rw [decide_eq_false he] at h2
     have h4:(nm != s)=true:=by simp [he]
     have h5:(nm == s)=false:=by simp [he]
     have HSU:=Lib.hid (hsu he)
     have HIU:=Lib.hid hiv
     obtain ⟨acc,hac⟩:∃ acc,Bk.woM (v.ms.take i) s=acc:=⟨_,rfl⟩
     have HAC:=Lib.hid hac
     have HAL:Hid (acc.length≤1048576):=Lib.hid (by
      rw [← hac]
      have h1:=Bk.wo_len (v.ms.take i) s
      have h3:(v.ms.take i).length≤v.ms.length:=by rw [List.length_take];omega
      have h4:=HML.out
      omega)
     have HMT:Hid (MgT wr O W3.heap.size sv acc):=Lib.hid (by rw [← hac];exact hM.out)
     have HB5:=hB
     have HX3:=hX
     have HS6:Hid (∀ W,Fr wr W→W.cell? ⟨X5,4,none⟩=some sv∧W.cell? ⟨X2,4,none⟩=some (.slice (some ⟨bm,om,none⟩) v.ms.length d')∧W.cell? ⟨bm,om+i*6,none⟩=some (.string ⟨nm.toArray⟩)∧W.cell? ⟨bm,om+i*6+1,none⟩=some (.int .i64 u.kd)∧W.cell? ⟨bm,om+i*6+1+1,none⟩=some (.int .i64 u.nm)∧W.cell? ⟨bm,om+i*6+1+2,none⟩=some (.string ⟨u.tx.toArray⟩)∧W.cell? ⟨bm,om+i*6+1+3,none⟩=some (.slice G u.ls.length k)∧W.cell? ⟨bm,om+i*6+1+4,none⟩=some (.slice G' u.ms.length k')):=Lib.hid (fun W hW=>by
      have hb':=Nat.lt_of_lt_of_le (HO.out bm hbm) HFR.out.size
      exact ⟨(hB.out.keep hW).cell 4,(hb2.keep hW).cell 4,(hW.cell hb').trans m0,(hW.cell hb').trans m1,(hW.cell hb').trans m2,(hW.cell hb').trans m3,(hW.cell hb').trans m4,(hW.cell hb').trans m5⟩)
     have HSB:Hid (∀ W:World,(∀ b,b<W3.heap.size→W.heap[b]? = wr.heap[b]?)→W.cell? ⟨X5,4,none⟩=some sv∧W.cell? ⟨X2,4,none⟩=some (.slice (some ⟨bm,om,none⟩) v.ms.length d')∧W.cell? ⟨bm,om+i*6,none⟩=some (.string ⟨nm.toArray⟩)∧W.cell? ⟨bm,om+i*6+1,none⟩=some (.int .i64 u.kd)∧W.cell? ⟨bm,om+i*6+1+1,none⟩=some (.int .i64 u.nm)∧W.cell? ⟨bm,om+i*6+1+2,none⟩=some (.string ⟨u.tx.toArray⟩)∧W.cell? ⟨bm,om+i*6+1+3,none⟩=some (.slice G u.ls.length k)∧W.cell? ⟨bm,om+i*6+1+4,none⟩=some (.slice G' u.ms.length k')):=Lib.hid (fun W hk=>by
      have a:=HS6.out wr (Fr.refl _)
      have hc:∀ b o,b<W3.heap.size→W.cell? ⟨b,o,none⟩=wr.cell? ⟨b,o,none⟩:=fun b o hb=>by unfold World.cell?;rw [hk b hb]
      have hxx:=HXX.out
      have hb':bm<W3.heap.size:=by have:=HO.out bm hbm;omega
      exact ⟨(hc X5 4 hxx.2.2).trans a.1,(hc X2 4 (by omega)).trans a.2.1,(hc bm _ hb').trans a.2.2.1,(hc bm _ hb').trans a.2.2.2.1,(hc bm _ hb').trans a.2.2.2.2.1,(hc bm _ hb').trans a.2.2.2.2.2.1,(hc bm _ hb').trans a.2.2.2.2.2.2.1,(hc bm _ hb').trans a.2.2.2.2.2.2.2⟩)
     clear hnl hsk hsu hiv hpu he hb2 hbm hac hM hB hX
     go_upto_region 6 with fail
     clear y0 y1 y2 y3 y4 m0 m1 m2 m3 m4 m5
     refine OrdL.begin (x:=10) (fun W=>W.cell? ⟨X5,4,none⟩=some sv∧W.cell? ⟨X2,4,none⟩=some (.slice (some ⟨bm,om,none⟩) v.ms.length d')∧W.cell? ⟨bm,om+i*6,none⟩=some (.string ⟨nm.toArray⟩)∧W.cell? ⟨bm,om+i*6+1,none⟩=some (.int .i64 u.kd)∧W.cell? ⟨bm,om+i*6+1+1,none⟩=some (.int .i64 u.nm)∧W.cell? ⟨bm,om+i*6+1+2,none⟩=some (.string ⟨u.tx.toArray⟩)∧W.cell? ⟨bm,om+i*6+1+3,none⟩=some (.slice G u.ls.length k)∧W.cell? ⟨bm,om+i*6+1+4,none⟩=some (.slice G' u.ms.length k')) (by kernel_rfl) ?_ (fun hH=>?_)
     ·exact HS6.out _ (Fr.refl _).drew
     refine lq 0 [1,8] rfl hH ?_
     try simp only [Act.put,fl]
     refine lq 1 [8] rfl hH ?_
     try simp only [Act.put,fl]
     refine lq 2 [3,5,6,7,8] rfl hH ?_
     try simp only [Act.put,fl]
     refine lq 3 [5,6,7,8] rfl hH ?_
     try simp only [Act.put,fl]
     refine lq 4 [5,6,7,8] rfl hH ?_
     try simp only [Act.put,fl]
     refine lq 5 [6,7,8] rfl hH ?_
     try simp only [Act.put,fl]
     refine lq 6 [7,8] rfl hH ?_
     try simp only [Act.put,fl]
     refine OrdL.one (i:=7) rfl (by kernel_rfl) (by rfl) (fun K hK=>?_)
     go_simp
     refine hK.out _ _ (HS6.out _ ((Fr.refl _).drew.alloc _)) (fun hH4=>?_)
     clear hK K
     try simp only [Act.put,fl]
     have hm9:=HMT.out.keep (Fr.refl wr).drew
     have hin9:=HIU.out.map (w':=wr.drew) (fun _ h=>h) (fun b o _=>rfl)
     refine OrdL.one (i:=8) rfl (by kernel_rfl) (by rfl) (fun K hK=>?_)
     refine step_mT_lit rfl (.tmp 29) (.tmp 35) rfl O W3.heap.size sv acc rfl hm9 nm u G k G' k' rfl HNL.out hin9 1 1 rfl rfl rfl (by have:=HAL.out;omega) ?_
     intro v9 w9 hs9 hg9 ho9
     have hkb:∀ b,b<W3.heap.size→w9.heap[b]? = wr.heap[b]?:=fun b hb=>by have h3:=HX3.out.size;exact (hg9.block b (Nat.lt_of_lt_of_le (Nat.lt_of_lt_of_le hb h3) ((Fr.refl wr).drew.alloc _).size) (fun e=>by have:=(hm9.own_lt e.symm).1;omega)).trans (Below.block ((Fr.refl wr).drew.alloc _) b (Nat.lt_of_lt_of_le hb h3))
     have hb59:Blk w9 X5 #[.int .i64 6,.int .i64 0,.string ⟨#[]⟩,.slice none 0 0,sv] 25:=(hkb X5 HXX.out.2.2).trans HB5.out
     have hfx9:FrX X5 W3 w9:=FrX.grown2 (HX3.out.fr ((Fr.refl wr).drew.alloc _)) hg9 (fun k hk=>(hm9.own_lt hk).1)
     obtain ⟨A9,n9,c9,rfl⟩:∃ A n c,v9=.slice A n c:=by obtain ⟨A,c,e⟩:=hs9.is_slice;exact ⟨A,_,c,e⟩
     refine hK.out _ _ (HSB.out w9 hkb) (fun hH5=>?_)
     clear hK K
     try simp only [Act.put,fl]
     obtain ⟨⟨y0,y1,y2,y3,y4⟩,yf0,yf1,yf2,yf3,yf4⟩:=box5 hb59
     refine lq 9 [] rfl hH5 ?_
     try simp only [Act.put,fl]
     refine OrdL.last rfl (by kernel_rfl) (by kernel_rfl) (fun K hK=>?_)
     go_simp
     refine hK.out _ _ ?_
     clear hK K
     try simp only [Act.put,fl]
     have hst:=hs9.frx (fun b hb=>HO5.out b hb) (by have:=HXX.out;omega) ((FrX.refl X5 w9).setCell (p:=⟨X5,4,none⟩) rfl (.slice A9 n9 c9))
     go_wp2_with fail
     rw [← HAC.out,← HSU.out] at hst
     exact ⟨⟨i+1,_,by omega,by go_num,Lib.hid (hfx9.setCell rfl _),Lib.hid (hb59.set 4 _),Lib.hid hst⟩,by simp [intOf];omega⟩
   ·obtain rfl:i=v.ms.length:=by omega
    have hM2:MgT wr O W3.heap.size sv l:=by
     have:=hM.out
     rw [List.take_length,hlw.out] at this
     exact this
    obtain ⟨A4,c4,e4⟩:=hM2.is_slice
    subst e4
    have hll:l.length≤1048576:=by
     have h1:=Bk.wo_len v.ms s;have h2:=HML.out;rw [hlw.out] at h1;omega
    have hin:=hM2.inV (by omega)
    have HIN:=Lib.hid hin
    have hb4:=(HB4.out.keep HF03.out).frx hX.out (by have:=HXX.out;omega)
    have HB4R:=Lib.hid hb4
    obtain ⟨⟨x0,x1,x2,x3,x4⟩,xf0,xf1,xf2,xf3,xf4⟩:=box5 hb4
    obtain ⟨⟨z0,z1,z2,z3,z4⟩,_⟩:=box5 hB.out
    have HLL:=Lib.hid hll
    clear hb2 hb4 hfr hin hM2 hM hll
    go_wp2_with fail
    refine bodyPost_ret (results_cv (by rfl) rfl _ X4 (by rfl) _ _ _ _ _ (set5 HB4R.out)) rfl ?_
    have hxx:=HXX.out
    have hx4:=HX4.out
    have hfs:=HFR.out.size
    refine ⟨⟨A4,c4,rfl,?_⟩,st5_fr HFR.out (by omega) _ _ _ _ _⟩
    refine HIN.out.map (fun b hb=>?_) (fun b o hb=>(st5_frx wr X4 _ _ _ _ _).cell (by rcases hb with hb | hb;(have:=HO.out b hb;omega);exact hb.2) (by rcases hb with hb | hb;(have:=HO.out b hb;omega);(have:=hb.1;omega)))
    rcases hb with hb | hb
    ·exact .inl hb
    ·exact .inr ⟨by have:=hb.1;omega,Nat.lt_of_lt_of_le hb.2 (st5_frx wr X4 _ _ _ _ _).size⟩
 ·go_loopw [6] (fun j wr=>∃ (i:Nat) (sv:Value),i≤v.ms.length∧j=.int .i64 i∧Hid (FrX X5 W3 wr)∧Hid (Blk wr X5 #[.int .i64 6,.int .i64 0,.string ⟨#[]⟩,.slice none 0 0,sv] 25)∧Hid (MgT wr O W3.heap.size sv [])) (fun j _=>v.ms.length - (intOf j).toNat)
  case atStart=>exact ⟨0,_,by omega,rfl,Lib.hid (FrX.refl X5 W3),HB5,Lib.hid (MgT.none_ _ ⟨fun b hb=>by have:=HO.out b hb;have:=HXX.out;omega,Nat.le_refl _⟩)⟩
  case round=>
   obtain ⟨i,sv,hi,rfl,hX,hB,hM⟩:=hrel
   have hb2:=(HB2.out.keep HF03.out).frx hX.out (by have:=HXX.out;omega)
   have hfr:Fr w wr:=Fr.thenY (HF0.out.trans HF03.out) HXX.out.1.1 (Nat.le_of_lt HXX.out.2.2) hX.out
   have HFR:=Lib.hid hfr
   obtain ⟨⟨y0,y1,y2,y3,y4⟩,_⟩:=box5 hb2
   by_cases hlt:i<v.ms.length
   ·have hlt':(i:Int)<(v.ms.length:Int):=by omega
    have hM2:MgT wr O W3.heap.size sv l:=by rw [hlw.out];exact hM.out
    obtain ⟨A4,c4,e4⟩:=hM2.is_slice
    subst e4
    have hll:l.length≤1048576:=by
     rw [hlw.out];exact Nat.zero_le _
    have hin:=hM2.inV (by omega)
    have HIN:=Lib.hid hin
    have hb4:=(HB4.out.keep HF03.out).frx hX.out (by have:=HXX.out;omega)
    have HB4R:=Lib.hid hb4
    obtain ⟨⟨x0,x1,x2,x3,x4⟩,xf0,xf1,xf2,xf3,xf4⟩:=box5 hb4
    obtain ⟨⟨z0,z1,z2,z3,z4⟩,_⟩:=box5 hB.out
    have HLL:=Lib.hid hll
    clear hb2 hb4 hfr hin hM2 hM hll
    go_wp2_with fail
    refine bodyPost_ret (results_cv (by rfl) rfl _ X4 (by rfl) _ _ _ _ _ (set5 HB4R.out)) rfl ?_
    have hxx:=HXX.out
    have hx4:=HX4.out
    have hfs:=HFR.out.size
    refine ⟨⟨A4,c4,rfl,?_⟩,st5_fr HFR.out (by omega) _ _ _ _ _⟩
    refine HIN.out.map (fun b hb=>?_) (fun b o hb=>(st5_frx wr X4 _ _ _ _ _).cell (by rcases hb with hb | hb;(have:=HO.out b hb;omega);exact hb.2) (by rcases hb with hb | hb;(have:=HO.out b hb;omega);(have:=hb.1;omega)))
    rcases hb with hb | hb
    ·exact .inl hb
    ·exact .inr ⟨by have:=hb.1;omega,Nat.lt_of_lt_of_le hb.2 (st5_frx wr X4 _ _ _ _ _).size⟩
   ·have hlt':¬ (i:Int)<(v.ms.length:Int):=by omega
    have hM2:MgT wr O W3.heap.size sv l:=by rw [hlw.out];exact hM.out
    obtain ⟨A4,c4,e4⟩:=hM2.is_slice
    subst e4
    have hll:l.length≤1048576:=by
     rw [hlw.out];exact Nat.zero_le _
    have hin:=hM2.inV (by omega)
    have HIN:=Lib.hid hin
    have hb4:=(HB4.out.keep HF03.out).frx hX.out (by have:=HXX.out;omega)
    have HB4R:=Lib.hid hb4
    obtain ⟨⟨x0,x1,x2,x3,x4⟩,xf0,xf1,xf2,xf3,xf4⟩:=box5 hb4
    obtain ⟨⟨z0,z1,z2,z3,z4⟩,_⟩:=box5 hB.out
    have HLL:=Lib.hid hll
    clear hb2 hb4 hfr hin hM2 hM hll
    go_wp2_with fail
    refine bodyPost_ret (results_cv (by rfl) rfl _ X4 (by rfl) _ _ _ _ _ (set5 HB4R.out)) rfl ?_
    have hxx:=HXX.out
    have hx4:=HX4.out
    have hfs:=HFR.out.size
    refine ⟨⟨A4,c4,rfl,?_⟩,st5_fr HFR.out (by omega) _ _ _ _ _⟩
    refine HIN.out.map (fun b hb=>?_) (fun b o hb=>(st5_frx wr X4 _ _ _ _ _).cell (by rcases hb with hb | hb;(have:=HO.out b hb;omega);exact hb.2) (by rcases hb with hb | hb;(have:=HO.out b hb;omega);(have:=hb.1;omega)))
    rcases hb with hb | hb
    ·exact .inl hb
    ·exact .inr ⟨by have:=hb.1;omega,Nat.lt_of_lt_of_le hb.2 (st5_frx wr X4 _ _ _ _ _).size⟩
end Go.Proofs.YtlmcfhokfiibkaaGreatDoor
