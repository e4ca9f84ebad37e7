/- The walk of point.find. -/
import Derived.Test.YtdhakbghdcfncaaGreatDoorPte
namespace Go.Proofs.YtdhakbghdcfncaaGreatDoor
set_option maxRecDepth 100000
set_option maxHeartbeats 4000000
set_option linter.unusedVariables false
set_option linter.unusedSimpArgs false
open Go.RowKit

theorem psc_cut {w:World} {b o c:Nat} {p:List UInt8} {ps:List (List UInt8)} (h:PsC w (some ⟨b,o,none⟩) (p::ps)) (hc:(p::ps).length≤c) (h63:c≤9223372036854775807):
  ∃ A',(∀ W,(Instr.slice 58 (.slice (some ⟨b,o,none⟩) (ps.length+1) c) (some (.int .i64 1)) none none).run Tryz.prog W=.ok (.slice A' ps.length (c - 1)) W)∧(∀ W,Fr w W→PsC W A' ps)∧ps.length≤c - 1:=by
 simp only [List.length_cons] at hc
 refine ⟨if c=1 then some ⟨b,o,none⟩ else some ⟨b,o+1,none⟩,fun W=>?_,fun W hW=>?_,by omega⟩
 ·rw [run_slice_l W 58 (some ⟨b,o,none⟩) (ps.length+1) c Tryz.underlying58 .i64 1 (by omega) (by omega)]
  have hs:(sizeOf (Tryz.prog.elem 58)).run Tryz.prog W=.ok 1 W:=by kernel_rfl
  rw [hs]
  simp only [Result.andThen,sliced]
  by_cases h1:c=1
  ·rw [if_pos h1,if_pos (by simpa using h1)];simp
  ·rw [if_neg h1,if_neg (by simpa using h1)];simp [Addr.add]
 ·by_cases h1:c=1
  ·have:ps=[]:=List.eq_nil_of_length_eq_zero (by omega)
   subst this
   exact fun h=>absurd rfl h
  ·rw [if_neg h1]
   exact h.tail.keep hW

theorem find_nil_is (st:Bool):FindAt st []:=by
 intro v B d B' d' A c w Z hZ hv hn hp hc hc2 hq
 have HV:=Lib.hid hv
 rw [Pt.find_nil]
 simp only [List.length_nil]
 clear hv hp hc hn hq
 go_enter Tryz.func67,Tryz.ntmps67
 go_wp2_with fail
 refine bodyPost_ret (results_cs (by rfl) rfl _ (w.heap.size+1) (by rfl) (by rfl) _ _ _ _ _ (boxz (Blk.made (w.alloc _) _ _))) rfl ?_
 have hfin:=((Fr.refl w).alloc (.cells #[.int .i64 v.kd,.int .i64 v.nm,.string ⟨v.tx.toArray⟩,.slice B v.ls.length d,.slice B' v.ms.length d'] 25)).alloc (.cells #[.int .i64 v.kd,.int .i64 v.nm,.string ⟨v.tx.toArray⟩,.slice B v.ls.length d,.slice B' v.ms.length d'] 25)
 exact ⟨B,d,B',d',rfl,(HV.out.keep hZ hfin).more (fun b hb=>.inl hb),hfin⟩

theorem find_cons_is (st:Bool) (p:List UInt8) (ps:List (List UInt8)) (hF:FindAt st ps):FindAt st (p::ps):=by
 intro v B d B' d' A c w Z hZ hv hn hp hc hc2 hq
 have HV:=Lib.hid hv
 have HN:=Lib.hid hn
 have HF:=Lib.hid hF
 have HQ:Hid (∀ q∈ps,q.length≤9223372036854775807):=fun q hq'=>hq q (by simp [hq'])
 have HQ0:Hid (p.length≤9223372036854775807):=hq p (by simp)
 obtain ⟨b,o,rfl,hb,hcl⟩:=hp (by simp)
 have hc0:w.cell? ⟨b,o,none⟩=some (.string ⟨p.toArray⟩):=hcl 0 (by simp)
 obtain ⟨A',hcut,hps,hpc⟩:=psc_cut hp hc hc2
 have HPS:=Lib.hid hps
 have hpc2:c - 1≤9223372036854775807:=by omega
 have HB:=Lib.hid hb
 have HC0:=Lib.hid hc0
 simp only [List.length_cons] at hc ⊢
 have hlp:((ps.length:Int)+1 == 0)=false:=by rw [beq_eq_false_iff_ne];omega
 have hpl:(ps.length:Int)+1≤9223372036854775807:=by omega
 have n0:¬ w.heap.size+1=w.heap.size:=by omega
 have HW:Hid (Fr w ((w.alloc (.cells #[.int .i64 v.kd,.int .i64 v.nm,.string ⟨v.tx.toArray⟩,.slice B v.ls.length d,.slice B' v.ms.length d'] 25)).alloc (.cells #[.int .i64 0,.int .i64 0,.string ⟨#[]⟩,.slice none 0 0,.slice none 0 0] 25))):=((Fr.refl w).alloc _).alloc _
 have HBV:Hid (Blk ((w.alloc (.cells #[.int .i64 v.kd,.int .i64 v.nm,.string ⟨v.tx.toArray⟩,.slice B v.ls.length d,.slice B' v.ms.length d'] 25)).alloc (.cells #[.int .i64 0,.int .i64 0,.string ⟨#[]⟩,.slice none 0 0,.slice none 0 0] 25)) w.heap.size #[.int .i64 v.kd,.int .i64 v.nm,.string ⟨v.tx.toArray⟩,.slice B v.ls.length d,.slice B' v.ms.length d'] 25):=(Blk.made w _ _).keep ((Fr.refl _).alloc _)
 have HBZ:Hid (Blk ((w.alloc (.cells #[.int .i64 v.kd,.int .i64 v.nm,.string ⟨v.tx.toArray⟩,.slice B v.ls.length d,.slice B' v.ms.length d'] 25)).alloc (.cells #[.int .i64 0,.int .i64 0,.string ⟨#[]⟩,.slice none 0 0,.slice none 0 0] 25)) (w.heap.size+1) #[.int .i64 0,.int .i64 0,.string ⟨#[]⟩,.slice none 0 0,.slice none 0 0] 25):=boxz (Blk.made (w.alloc _) _ _)
 have hlsz:Hid (LsC w (Lo Z) B v.ls):=by
  obtain ⟨A1,k1,A1',k1',he1,hls,_⟩:=hv.open_
  obtain ⟨_,_,_,e3,_⟩:=five he1
  injection e3 with e3
  show LsC _ _ _ _
  rw [e3];exact hls
 have hnl:Hid (Rd.nvL v.ls≤1048576):=by
  have:=Pt.nv_eq v
  show _≤_;omega
 rw [Pt.find_cons]
 have HS:Hid (∀ W,Fr ((w.alloc (.cells #[.int .i64 v.kd,.int .i64 v.nm,.string ⟨v.tx.toArray⟩,.slice B v.ls.length d,.slice B' v.ms.length d'] 25)).alloc (.cells #[.int .i64 0,.int .i64 0,.string ⟨#[]⟩,.slice none 0 0,.slice none 0 0] 25)) W→W.cell? ⟨w.heap.size,0,none⟩=some (Value.int .i64 v.kd)∧W.cell? ⟨w.heap.size,1,none⟩=some (Value.int .i64 v.nm)∧W.cell? ⟨w.heap.size,2,none⟩=some (Value.string ⟨v.tx.toArray⟩)∧W.cell? ⟨w.heap.size,3,none⟩=some (Value.slice B v.ls.length d)∧W.cell? ⟨w.heap.size,4,none⟩=some (Value.slice B' v.ms.length d')∧W.cell? ⟨b,o,none⟩=some (.string ⟨p.toArray⟩)):=Lib.hid (fun W hW=>by
  have h:=HBV.out.keep hW
  exact ⟨h.cell 0,h.cell 1,h.cell 2,h.cell 3,h.cell 4,((HW.out.trans hW).cell HB.out).trans HC0.out⟩)
 have HS5:Hid (∀ W,Fr ((w.alloc (.cells #[.int .i64 v.kd,.int .i64 v.nm,.string ⟨v.tx.toArray⟩,.slice B v.ls.length d,.slice B' v.ms.length d'] 25)).alloc (.cells #[.int .i64 0,.int .i64 0,.string ⟨#[]⟩,.slice none 0 0,.slice none 0 0] 25)) W → ∀ u0 u1 u2 u3 u4,(((((W.setCell ⟨w.heap.size+1,0,none⟩ u0).setCell ⟨w.heap.size+1,1,none⟩ u1).setCell ⟨w.heap.size+1,2,none⟩ u2).setCell ⟨w.heap.size+1,3,none⟩ u3).setCell ⟨w.heap.size+1,4,none⟩ u4).cell? ⟨w.heap.size,0,none⟩=some (Value.int .i64 v.kd)∧(((((W.setCell ⟨w.heap.size+1,0,none⟩ u0).setCell ⟨w.heap.size+1,1,none⟩ u1).setCell ⟨w.heap.size+1,2,none⟩ u2).setCell ⟨w.heap.size+1,3,none⟩ u3).setCell ⟨w.heap.size+1,4,none⟩ u4).cell? ⟨w.heap.size,1,none⟩=some (Value.int .i64 v.nm)∧(((((W.setCell ⟨w.heap.size+1,0,none⟩ u0).setCell ⟨w.heap.size+1,1,none⟩ u1).setCell ⟨w.heap.size+1,2,none⟩ u2).setCell ⟨w.heap.size+1,3,none⟩ u3).setCell ⟨w.heap.size+1,4,none⟩ u4).cell? ⟨w.heap.size,2,none⟩=some (Value.string ⟨v.tx.toArray⟩)∧(((((W.setCell ⟨w.heap.size+1,0,none⟩ u0).setCell ⟨w.heap.size+1,1,none⟩ u1).setCell ⟨w.heap.size+1,2,none⟩ u2).setCell ⟨w.heap.size+1,3,none⟩ u3).setCell ⟨w.heap.size+1,4,none⟩ u4).cell? ⟨w.heap.size,3,none⟩=some (Value.slice B v.ls.length d)∧(((((W.setCell ⟨w.heap.size+1,0,none⟩ u0).setCell ⟨w.heap.size+1,1,none⟩ u1).setCell ⟨w.heap.size+1,2,none⟩ u2).setCell ⟨w.heap.size+1,3,none⟩ u3).setCell ⟨w.heap.size+1,4,none⟩ u4).cell? ⟨w.heap.size,4,none⟩=some (Value.slice B' v.ms.length d')∧(((((W.setCell ⟨w.heap.size+1,0,none⟩ u0).setCell ⟨w.heap.size+1,1,none⟩ u1).setCell ⟨w.heap.size+1,2,none⟩ u2).setCell ⟨w.heap.size+1,3,none⟩ u3).setCell ⟨w.heap.size+1,4,none⟩ u4).cell? ⟨b,o,none⟩=some (.string ⟨p.toArray⟩)):=Lib.hid (fun W hW u0 u1 u2 u3 u4=>by
  have h:=HBV.out.keep hW
  have n:∀ j,(Addr.mk (w.heap.size+1) j none).block≠w.heap.size:=fun j=>by show w.heap.size+1≠w.heap.size;omega
  have h5:=((((h.other (n 0) u0).other (n 1) u1).other (n 2) u2).other (n 3) u3).other (n 4) u4
  refine ⟨h5.cell 0,h5.cell 1,h5.cell 2,h5.cell 3,h5.cell 4,?_⟩
  exact (((HW.out.trans hW).put5 (X:=w.heap.size+1) (Nat.le_succ _) u0 u1 u2 u3 u4).cell HB.out).trans HC0.out)
 have c3:=(HS.out _ (Fr.refl _))
 clear hv hp hcl hps hb hc0 hF hn hq
 by_cases hcase:st=true∧p=[42]∧v.kd=5
 ·obtain ⟨rfl,hp42,hk⟩:=hcase
  rw [if_pos ⟨rfl,hp42,hk⟩]
  have q1:((⟨p.toArray⟩:ByteArray).toList == (⟨#[42]⟩:ByteArray).toList)=true:=(bl_beq' p [42]).trans (decide_eq_true hp42)
  have q2:(p == [42])=true:=by rw [beq_iff_eq];exact hp42
  have q5:(v.kd == 5)=true:=by rw [beq_iff_eq];exact hk
  have HC:Hid (∀ W,Fr w W→Calls Tryz.prog 85 #[.slice B v.ls.length d,.slice A' ps.length (c - 1)] W (FdP Z W ((Pt.gather (Pt.find true ps) v.ls).map JV.listV))):=Lib.hid (fun W hW=>all_is ps HF.out v.ls B d A' (c - 1) W Z (Nat.le_trans hZ hW.size) (hlsz.out.keep hZ hW) hnl.out (HPS.out W hW) hpc hpc2 HQ.out)
  obtain ⟨r,hr⟩:∃ r,(Pt.gather (Pt.find true ps) v.ls).map JV.listV=r:=⟨_,rfl⟩
  rw [hr] at HC ⊢
  clear hr hk hp42
  go_enter Tryz.func67,Tryz.ntmps67
  go_wp2_with fail
  go_region_held3 (fun W=>W.cell? ⟨w.heap.size,0,none⟩=some (Value.int .i64 v.kd)∧W.cell? ⟨w.heap.size,1,none⟩=some (Value.int .i64 v.nm)∧W.cell? ⟨w.heap.size,2,none⟩=some (Value.string ⟨v.tx.toArray⟩)∧W.cell? ⟨w.heap.size,3,none⟩=some (Value.slice B v.ls.length d)∧W.cell? ⟨w.heap.size,4,none⟩=some (Value.slice B' v.ms.length d')∧W.cell? ⟨b,o,none⟩=some (.string ⟨p.toArray⟩))
   (first | with_reducible exact HS5.out _ HF1.out _ _ _ _ _ | with_reducible exact HS.out _ HF1.out | with_reducible exact HS.out _ (Fr.refl _).drew | with_reducible exact HS.out _ (Fr.refl _))
   (first
    | (go_at_call 85;refine (HC.out _ (by first | with_reducible exact HW.out.drew | with_reducible exact HW.out)).mono ?_;intro x w1 h1;obtain ⟨k3,n3,s3,A3,a3,b3,A3',a3',b3',t3,rfl⟩:=h1.form;have hf1:Fr ((w.alloc (.cells #[.int .i64 v.kd,.int .i64 v.nm,.string ⟨v.tx.toArray⟩,.slice B v.ls.length d,.slice B' v.ms.length d'] 25)).alloc (.cells #[.int .i64 0,.int .i64 0,.string ⟨#[]⟩,.slice none 0 0,.slice none 0 0] 25)) w1:=(by first | exact h1.fr | exact (Fr.refl _).drew.trans h1.fr);have hb:=HBZ.out.keep hf1;obtain ⟨⟨x0,x1,x2,x3,x4⟩,g0,g1,g2,g3,g4⟩:=box5 hb;have HB1:=Lib.hid hb;have HF1:=Lib.hid hf1;have H1:=Lib.hid h1;clear h1 hb hf1))
  go_wp2_with fail
  refine bodyPost_ret (results_cs (by rfl) rfl _ (w.heap.size+1) (by rfl) (by rfl) _ _ _ _ _ (set5 HB1.out)) rfl ?_
  exact H1.out.lift (by first | exact HW.out.drew | exact HW.out) hZ (Nat.le_succ _) (by simp [World.drew]) _ _ _ _ _
 rw [if_neg hcase]
 have HC:Hid (∀ W,Fr w W→Calls Tryz.prog 86 #[.agg #[.int .i64 v.kd,.int .i64 v.nm,.string ⟨v.tx.toArray⟩,.slice B v.ls.length d,.slice B' v.ms.length d'],.string ⟨p.toArray⟩] W (OpP Z W (Pt.step v p))):=Lib.hid (fun W hW=>step_is v B d B' d' p W Z (Nat.le_trans hZ hW.size) (HV.out.keep hZ hW) HQ0.out)
 have hnx:Hid (∀ x,Pt.step v p=some x→Rd.nv x≤1048576):=Lib.hid (fun x hx=>by have:=Pt.step_nv hx;have:=HN.out;omega)
 obtain ⟨r,hr⟩:∃ r,Pt.step v p=r:=⟨_,rfl⟩
 rw [hr] at HC hnx ⊢
 clear hr
 have hcs:st=false∨(st=true∧p≠[42])∨(st=true∧p=[42]∧v.kd≠5):=by
  cases st with
  | false=>exact .inl rfl
  | true=>
   by_cases h1:p=[42]
   ·exact .inr (.inr ⟨rfl,h1,fun h=>hcase ⟨rfl,h1,h⟩⟩)
   ·exact .inr (.inl ⟨rfl,h1⟩)
 clear hcase
 rcases hcs with rfl | ⟨rfl,hp⟩ | ⟨rfl,hp42,hk⟩
 ·skip
  go_enter Tryz.func67,Tryz.ntmps67
  go_wp2_with fail
  rcases r with _ | x
  ·go_region_held3 (fun W=>W.cell? ⟨w.heap.size,0,none⟩=some (Value.int .i64 v.kd)∧W.cell? ⟨w.heap.size,1,none⟩=some (Value.int .i64 v.nm)∧W.cell? ⟨w.heap.size,2,none⟩=some (Value.string ⟨v.tx.toArray⟩)∧W.cell? ⟨w.heap.size,3,none⟩=some (Value.slice B v.ls.length d)∧W.cell? ⟨w.heap.size,4,none⟩=some (Value.slice B' v.ms.length d')∧W.cell? ⟨b,o,none⟩=some (.string ⟨p.toArray⟩))
    (first | with_reducible exact HS.out _ (HF8.out _ _ _ _ _) | with_reducible exact HS.out _ (HF9.out _ _ _ _ _) | with_reducible exact HS.out _ (HF1.out.alloc _) | with_reducible exact HS.out _ HF1.out | with_reducible exact HS.out _ ((Fr.refl _).alloc _).drew | with_reducible exact HS.out _ (Fr.refl _).drew | with_reducible exact HS.out _ (Fr.refl _))
    (first
     | (go_at_call 86;refine (HC.out _ (by with_reducible exact (HW.out.alloc _).drew)).mono ?_;rintro e w1 ⟨rfl,hf⟩;have hb8:Blk w1 (w.heap.size+1+1) #[.int .i64 0,.int .i64 0,.string ⟨#[]⟩,.slice none 0 0,.slice none 0 0] 25:=(boxy (Blk.made ((w.alloc _).alloc _) _ _)).keep ((Fr.refl _).drew.trans hf);obtain ⟨⟨z0,z1,z2,z3,z4⟩,zf0,zf1,zf2,zf3,zf4⟩:=box5 hb8;have HB8:=Lib.hid hb8;have hf1:Fr ((w.alloc (.cells #[.int .i64 v.kd,.int .i64 v.nm,.string ⟨v.tx.toArray⟩,.slice B v.ls.length d,.slice B' v.ms.length d'] 25)).alloc (.cells #[.int .i64 0,.int .i64 0,.string ⟨#[]⟩,.slice none 0 0,.slice none 0 0] 25)) w1:=(by first | exact hf | exact (Fr.refl _).drew.trans hf | exact ((Fr.refl _).alloc _).drew.trans hf);have HF8:Hid (∀ u0 u1 u2 u3 u4,Fr ((w.alloc (.cells #[.int .i64 v.kd,.int .i64 v.nm,.string ⟨v.tx.toArray⟩,.slice B v.ls.length d,.slice B' v.ms.length d'] 25)).alloc (.cells #[.int .i64 0,.int .i64 0,.string ⟨#[]⟩,.slice none 0 0,.slice none 0 0] 25)) (((((w1.setCell ⟨w.heap.size+1+1,0,none⟩ u0).setCell ⟨w.heap.size+1+1,1,none⟩ u1).setCell ⟨w.heap.size+1+1,2,none⟩ u2).setCell ⟨w.heap.size+1+1,3,none⟩ u3).setCell ⟨w.heap.size+1+1,4,none⟩ u4)):=Lib.hid (fun u0 u1 u2 u3 u4=>hf1.put5 (X:=w.heap.size+1+1) (by simp) u0 u1 u2 u3 u4);have HF9:Hid (∀ u0 u1 u2 u3 u4,Fr ((w.alloc (.cells #[.int .i64 v.kd,.int .i64 v.nm,.string ⟨v.tx.toArray⟩,.slice B v.ls.length d,.slice B' v.ms.length d'] 25)).alloc (.cells #[.int .i64 0,.int .i64 0,.string ⟨#[]⟩,.slice none 0 0,.slice none 0 0] 25)) ((((((w1.alloc (.cells #[.int .i64 0,.int .i64 0,.string ⟨#[]⟩,.slice none 0 0,.slice none 0 0] 25)).setCell ⟨w1.heap.size,0,none⟩ u0).setCell ⟨w1.heap.size,1,none⟩ u1).setCell ⟨w1.heap.size,2,none⟩ u2).setCell ⟨w1.heap.size,3,none⟩ u3).setCell ⟨w1.heap.size,4,none⟩ u4)):=Lib.hid (fun u0 u1 u2 u3 u4=>(hf1.alloc _).put5 (X:=w1.heap.size) hf1.size u0 u1 u2 u3 u4);have HF1:=Lib.hid hf1;clear hf1 hf hb8)
     | (go_at_call 86;refine (HC.out _ (by first | with_reducible exact HW.out.drew | with_reducible exact HW.out)).mono ?_;rintro e w1 ⟨rfl,hf⟩;have hf1:Fr ((w.alloc (.cells #[.int .i64 v.kd,.int .i64 v.nm,.string ⟨v.tx.toArray⟩,.slice B v.ls.length d,.slice B' v.ms.length d'] 25)).alloc (.cells #[.int .i64 0,.int .i64 0,.string ⟨#[]⟩,.slice none 0 0,.slice none 0 0] 25)) w1:=(by first | exact hf | exact (Fr.refl _).drew.trans hf | exact ((Fr.refl _).alloc _).drew.trans hf);have HF8:Hid (∀ u0 u1 u2 u3 u4,Fr ((w.alloc (.cells #[.int .i64 v.kd,.int .i64 v.nm,.string ⟨v.tx.toArray⟩,.slice B v.ls.length d,.slice B' v.ms.length d'] 25)).alloc (.cells #[.int .i64 0,.int .i64 0,.string ⟨#[]⟩,.slice none 0 0,.slice none 0 0] 25)) (((((w1.setCell ⟨w.heap.size+1+1,0,none⟩ u0).setCell ⟨w.heap.size+1+1,1,none⟩ u1).setCell ⟨w.heap.size+1+1,2,none⟩ u2).setCell ⟨w.heap.size+1+1,3,none⟩ u3).setCell ⟨w.heap.size+1+1,4,none⟩ u4)):=Lib.hid (fun u0 u1 u2 u3 u4=>hf1.put5 (X:=w.heap.size+1+1) (by simp) u0 u1 u2 u3 u4);have HF9:Hid (∀ u0 u1 u2 u3 u4,Fr ((w.alloc (.cells #[.int .i64 v.kd,.int .i64 v.nm,.string ⟨v.tx.toArray⟩,.slice B v.ls.length d,.slice B' v.ms.length d'] 25)).alloc (.cells #[.int .i64 0,.int .i64 0,.string ⟨#[]⟩,.slice none 0 0,.slice none 0 0] 25)) ((((((w1.alloc (.cells #[.int .i64 0,.int .i64 0,.string ⟨#[]⟩,.slice none 0 0,.slice none 0 0] 25)).setCell ⟨w1.heap.size,0,none⟩ u0).setCell ⟨w1.heap.size,1,none⟩ u1).setCell ⟨w1.heap.size,2,none⟩ u2).setCell ⟨w1.heap.size,3,none⟩ u3).setCell ⟨w1.heap.size,4,none⟩ u4)):=Lib.hid (fun u0 u1 u2 u3 u4=>(hf1.alloc _).put5 (X:=w1.heap.size) hf1.size u0 u1 u2 u3 u4);have HF1:=Lib.hid hf1;clear hf1 hf))
   ·have hw9:=HF1.out.alloc (.cells #[.int .i64 0,.int .i64 0,.string ⟨#[]⟩,.slice none 0 0,.slice none 0 0] 25)
    generalize (w1.alloc (.cells #[.int .i64 0,.int .i64 0,.string ⟨#[]⟩,.slice none 0 0,.slice none 0 0] 25))=Wf at hw9 ⊢
    have hb:=HBZ.out.keep hw9
    have HB:=Lib.hid hb
    have HWf:=Lib.hid hw9
    obtain ⟨⟨x0,x1,x2,x3,x4⟩,g0,g1,g2,g3,g4⟩:=box5 hb
    clear hb hw9
    go_wp2_with fail
    refine bodyPost_ret (results_cs (by rfl) rfl _ (w.heap.size+1) (by rfl) (by rfl) _ _ _ _ _ (set5 HB.out)) rfl ?_
    exact ⟨rfl,(HW.out.trans HWf.out).put5 (Nat.le_succ _) _ _ _ _ _⟩
   ·have hw9:=HF8.out (.int .i64 0) (.int .i64 0) (.string ⟨#[]⟩) (.slice none 0 0) (.slice none 0 0)
    generalize (((((w1.setCell ⟨w.heap.size+1+1,0,none⟩ (.int .i64 0)).setCell ⟨w.heap.size+1+1,1,none⟩ (.int .i64 0)).setCell ⟨w.heap.size+1+1,2,none⟩ (.string ⟨#[]⟩)).setCell ⟨w.heap.size+1+1,3,none⟩ (.slice none 0 0)).setCell ⟨w.heap.size+1+1,4,none⟩ (.slice none 0 0))=Wf at hw9 ⊢
    have hb:=HBZ.out.keep hw9
    have HB:=Lib.hid hb
    have HWf:=Lib.hid hw9
    obtain ⟨⟨x0,x1,x2,x3,x4⟩,g0,g1,g2,g3,g4⟩:=box5 hb
    clear hb hw9
    go_wp2_with fail
    refine bodyPost_ret (results_cs (by rfl) rfl _ (w.heap.size+1) (by rfl) (by rfl) _ _ _ _ _ (set5 HB.out)) rfl ?_
    exact ⟨rfl,(HW.out.trans HWf.out).put5 (Nat.le_succ _) _ _ _ _ _⟩
  ·have hx63:=hnx.out x rfl
   go_region_held3 (fun W=>W.cell? ⟨w.heap.size,0,none⟩=some (Value.int .i64 v.kd)∧W.cell? ⟨w.heap.size,1,none⟩=some (Value.int .i64 v.nm)∧W.cell? ⟨w.heap.size,2,none⟩=some (Value.string ⟨v.tx.toArray⟩)∧W.cell? ⟨w.heap.size,3,none⟩=some (Value.slice B v.ls.length d)∧W.cell? ⟨w.heap.size,4,none⟩=some (Value.slice B' v.ms.length d')∧W.cell? ⟨b,o,none⟩=some (.string ⟨p.toArray⟩))
    (first | with_reducible exact HS.out _ (HF8.out _ _ _ _ _) | with_reducible exact HS.out _ (HF9.out _ _ _ _ _) | with_reducible exact HS.out _ (HF1.out.alloc _) | with_reducible exact HS.out _ HF1.out | with_reducible exact HS.out _ ((Fr.refl _).alloc _).drew | with_reducible exact HS.out _ (Fr.refl _).drew | with_reducible exact HS.out _ (Fr.refl _))
    (first
     | (go_at_call 86;refine (HC.out _ (by with_reducible exact (HW.out.alloc _).drew)).mono ?_;rintro e w1 ⟨C,f,C',f',rfl,hin,hf⟩;have hb8:Blk w1 (w.heap.size+1+1) #[.int .i64 0,.int .i64 0,.string ⟨#[]⟩,.slice none 0 0,.slice none 0 0] 25:=(boxy (Blk.made ((w.alloc _).alloc _) _ _)).keep ((Fr.refl _).drew.trans hf);obtain ⟨⟨z0,z1,z2,z3,z4⟩,zf0,zf1,zf2,zf3,zf4⟩:=box5 hb8;have HB8:=Lib.hid hb8;have hf1:Fr ((w.alloc (.cells #[.int .i64 v.kd,.int .i64 v.nm,.string ⟨v.tx.toArray⟩,.slice B v.ls.length d,.slice B' v.ms.length d'] 25)).alloc (.cells #[.int .i64 0,.int .i64 0,.string ⟨#[]⟩,.slice none 0 0,.slice none 0 0] 25)) w1:=(by first | exact hf | exact (Fr.refl _).drew.trans hf | exact ((Fr.refl _).alloc _).drew.trans hf);have HF8:Hid (∀ u0 u1 u2 u3 u4,Fr ((w.alloc (.cells #[.int .i64 v.kd,.int .i64 v.nm,.string ⟨v.tx.toArray⟩,.slice B v.ls.length d,.slice B' v.ms.length d'] 25)).alloc (.cells #[.int .i64 0,.int .i64 0,.string ⟨#[]⟩,.slice none 0 0,.slice none 0 0] 25)) (((((w1.setCell ⟨w.heap.size+1+1,0,none⟩ u0).setCell ⟨w.heap.size+1+1,1,none⟩ u1).setCell ⟨w.heap.size+1+1,2,none⟩ u2).setCell ⟨w.heap.size+1+1,3,none⟩ u3).setCell ⟨w.heap.size+1+1,4,none⟩ u4)):=Lib.hid (fun u0 u1 u2 u3 u4=>hf1.put5 (X:=w.heap.size+1+1) (by simp) u0 u1 u2 u3 u4);have HF9:Hid (∀ u0 u1 u2 u3 u4,Fr ((w.alloc (.cells #[.int .i64 v.kd,.int .i64 v.nm,.string ⟨v.tx.toArray⟩,.slice B v.ls.length d,.slice B' v.ms.length d'] 25)).alloc (.cells #[.int .i64 0,.int .i64 0,.string ⟨#[]⟩,.slice none 0 0,.slice none 0 0] 25)) ((((((w1.alloc (.cells #[.int .i64 0,.int .i64 0,.string ⟨#[]⟩,.slice none 0 0,.slice none 0 0] 25)).setCell ⟨w1.heap.size,0,none⟩ u0).setCell ⟨w1.heap.size,1,none⟩ u1).setCell ⟨w1.heap.size,2,none⟩ u2).setCell ⟨w1.heap.size,3,none⟩ u3).setCell ⟨w1.heap.size,4,none⟩ u4)):=Lib.hid (fun u0 u1 u2 u3 u4=>(hf1.alloc _).put5 (X:=w1.heap.size) hf1.size u0 u1 u2 u3 u4);have HIN:=Lib.hid hin;have HF1:=Lib.hid hf1;clear hf1 hf hin hb8)
     | (go_at_call 86;refine (HC.out _ (by first | with_reducible exact HW.out.drew | with_reducible exact HW.out)).mono ?_;rintro e w1 ⟨C,f,C',f',rfl,hin,hf⟩;have hf1:Fr ((w.alloc (.cells #[.int .i64 v.kd,.int .i64 v.nm,.string ⟨v.tx.toArray⟩,.slice B v.ls.length d,.slice B' v.ms.length d'] 25)).alloc (.cells #[.int .i64 0,.int .i64 0,.string ⟨#[]⟩,.slice none 0 0,.slice none 0 0] 25)) w1:=(by first | exact hf | exact (Fr.refl _).drew.trans hf | exact ((Fr.refl _).alloc _).drew.trans hf);have HF8:Hid (∀ u0 u1 u2 u3 u4,Fr ((w.alloc (.cells #[.int .i64 v.kd,.int .i64 v.nm,.string ⟨v.tx.toArray⟩,.slice B v.ls.length d,.slice B' v.ms.length d'] 25)).alloc (.cells #[.int .i64 0,.int .i64 0,.string ⟨#[]⟩,.slice none 0 0,.slice none 0 0] 25)) (((((w1.setCell ⟨w.heap.size+1+1,0,none⟩ u0).setCell ⟨w.heap.size+1+1,1,none⟩ u1).setCell ⟨w.heap.size+1+1,2,none⟩ u2).setCell ⟨w.heap.size+1+1,3,none⟩ u3).setCell ⟨w.heap.size+1+1,4,none⟩ u4)):=Lib.hid (fun u0 u1 u2 u3 u4=>hf1.put5 (X:=w.heap.size+1+1) (by simp) u0 u1 u2 u3 u4);have HF9:Hid (∀ u0 u1 u2 u3 u4,Fr ((w.alloc (.cells #[.int .i64 v.kd,.int .i64 v.nm,.string ⟨v.tx.toArray⟩,.slice B v.ls.length d,.slice B' v.ms.length d'] 25)).alloc (.cells #[.int .i64 0,.int .i64 0,.string ⟨#[]⟩,.slice none 0 0,.slice none 0 0] 25)) ((((((w1.alloc (.cells #[.int .i64 0,.int .i64 0,.string ⟨#[]⟩,.slice none 0 0,.slice none 0 0] 25)).setCell ⟨w1.heap.size,0,none⟩ u0).setCell ⟨w1.heap.size,1,none⟩ u1).setCell ⟨w1.heap.size,2,none⟩ u2).setCell ⟨w1.heap.size,3,none⟩ u3).setCell ⟨w1.heap.size,4,none⟩ u4)):=Lib.hid (fun u0 u1 u2 u3 u4=>(hf1.alloc _).put5 (X:=w1.heap.size) hf1.size u0 u1 u2 u3 u4);have HIN:=Lib.hid hin;have HF1:=Lib.hid hf1;clear hf1 hf hin))
   ·have hw9:=HF1.out.alloc (.cells #[.int .i64 x.kd,.int .i64 x.nm,.string ⟨x.tx.toArray⟩,.slice C x.ls.length f,.slice C' x.ms.length f'] 25)
    have hbx:=Blk.made w1 #[.int .i64 x.kd,.int .i64 x.nm,.string ⟨x.tx.toArray⟩,.slice C x.ls.length f,.slice C' x.ms.length f'] 25
    have hx8:w.heap.size+1<w1.heap.size:=Nat.lt_of_lt_of_le HBZ.out.lt HF1.out.size
    generalize (w1.alloc (.cells #[.int .i64 x.kd,.int .i64 x.nm,.string ⟨x.tx.toArray⟩,.slice C x.ls.length f,.slice C' x.ms.length f'] 25))=Wf at hw9 hbx ⊢
    generalize w1.heap.size=X8 at hbx hx8 ⊢
    have HWf:=Lib.hid hw9
    have HBX:=Lib.hid hbx
    have hZf:Z≤Wf.heap.size:=Nat.le_trans hZ (HW.out.trans hw9).size
    have hin2:InV Wf (Lo Z) x (vA x C f C' f'):=HIN.out.map (fun _ h=>h) (fun b o hb=>by have hb:b<Z:=hb;rw [(HW.out.trans HWf.out).cell (by omega),(HW.out.trans HF1.out).cell (by omega)])
    have HIN2:=Lib.hid hin2
    clear hw9 hbx hin2
    have HC2:Hid (∀ W,Fr Wf W→Calls Tryz.prog 67 #[.agg #[.int .i64 x.kd,.int .i64 x.nm,.string ⟨x.tx.toArray⟩,.slice C x.ls.length f,.slice C' x.ms.length f'],.slice A' ps.length (c - 1),.bool false] W (FdP Z W (Pt.find false ps x))):=Lib.hid (fun W hW=>HF.out x C f C' f' A' (c - 1) W Z (Nat.le_trans hZf hW.size) (HIN2.out.keep hZf hW) hx63 (HPS.out W ((HW.out.trans HWf.out).trans hW)) hpc hpc2 HQ.out)
    have HS8:Hid (∀ W,Fr Wf W→W.cell? ⟨X8,0,none⟩=some (Value.int .i64 x.kd)∧W.cell? ⟨X8,1,none⟩=some (Value.int .i64 x.nm)∧W.cell? ⟨X8,2,none⟩=some (Value.string ⟨x.tx.toArray⟩)∧W.cell? ⟨X8,3,none⟩=some (Value.slice C x.ls.length f)∧W.cell? ⟨X8,4,none⟩=some (Value.slice C' x.ms.length f')):=Lib.hid (fun W hW=>by
     have h:=HBX.out.keep hW
     exact ⟨h.cell 0,h.cell 1,h.cell 2,h.cell 3,h.cell 4⟩)
    have HS85:Hid (∀ W,Fr Wf W → ∀ u0 u1 u2 u3 u4,(((((W.setCell ⟨w.heap.size+1,0,none⟩ u0).setCell ⟨w.heap.size+1,1,none⟩ u1).setCell ⟨w.heap.size+1,2,none⟩ u2).setCell ⟨w.heap.size+1,3,none⟩ u3).setCell ⟨w.heap.size+1,4,none⟩ u4).cell? ⟨X8,0,none⟩=some (Value.int .i64 x.kd)∧(((((W.setCell ⟨w.heap.size+1,0,none⟩ u0).setCell ⟨w.heap.size+1,1,none⟩ u1).setCell ⟨w.heap.size+1,2,none⟩ u2).setCell ⟨w.heap.size+1,3,none⟩ u3).setCell ⟨w.heap.size+1,4,none⟩ u4).cell? ⟨X8,1,none⟩=some (Value.int .i64 x.nm)∧(((((W.setCell ⟨w.heap.size+1,0,none⟩ u0).setCell ⟨w.heap.size+1,1,none⟩ u1).setCell ⟨w.heap.size+1,2,none⟩ u2).setCell ⟨w.heap.size+1,3,none⟩ u3).setCell ⟨w.heap.size+1,4,none⟩ u4).cell? ⟨X8,2,none⟩=some (Value.string ⟨x.tx.toArray⟩)∧(((((W.setCell ⟨w.heap.size+1,0,none⟩ u0).setCell ⟨w.heap.size+1,1,none⟩ u1).setCell ⟨w.heap.size+1,2,none⟩ u2).setCell ⟨w.heap.size+1,3,none⟩ u3).setCell ⟨w.heap.size+1,4,none⟩ u4).cell? ⟨X8,3,none⟩=some (Value.slice C x.ls.length f)∧(((((W.setCell ⟨w.heap.size+1,0,none⟩ u0).setCell ⟨w.heap.size+1,1,none⟩ u1).setCell ⟨w.heap.size+1,2,none⟩ u2).setCell ⟨w.heap.size+1,3,none⟩ u3).setCell ⟨w.heap.size+1,4,none⟩ u4).cell? ⟨X8,4,none⟩=some (Value.slice C' x.ms.length f')):=Lib.hid (fun W hW u0 u1 u2 u3 u4=>by
     have h:=HBX.out.keep hW
     have n:∀ j,(Addr.mk (w.heap.size+1) j none).block≠X8:=fun j=>by show w.heap.size+1≠X8;omega
     have h5:=((((h.other (n 0) u0).other (n 1) u1).other (n 2) u2).other (n 3) u3).other (n 4) u4
     exact ⟨h5.cell 0,h5.cell 1,h5.cell 2,h5.cell 3,h5.cell 4⟩)
    go_wp2_with fail
    go_region_held3 (fun W=>W.cell? ⟨X8,0,none⟩=some (Value.int .i64 x.kd)∧W.cell? ⟨X8,1,none⟩=some (Value.int .i64 x.nm)∧W.cell? ⟨X8,2,none⟩=some (Value.string ⟨x.tx.toArray⟩)∧W.cell? ⟨X8,3,none⟩=some (Value.slice C x.ls.length f)∧W.cell? ⟨X8,4,none⟩=some (Value.slice C' x.ms.length f'))
     (first | with_reducible exact HS85.out _ HF2.out _ _ _ _ _ | with_reducible exact HS8.out _ HF2.out | with_reducible exact HS8.out _ (Fr.refl _).drew | with_reducible exact HS8.out _ (Fr.refl _))
     (first
      | (go_at_call 67;refine (HC2.out _ (by first | with_reducible exact (Fr.refl _).drew | with_reducible exact Fr.refl _)).mono ?_;intro x2 w2 h2;obtain ⟨k3,n3,s3,A3,a3,b3,A3',a3',b3',t3,rfl⟩:=h2.form;have hf2:Fr Wf w2:=(by first | exact h2.fr | exact (Fr.refl _).drew.trans h2.fr);have hb:=HBZ.out.keep (HWf.out.trans hf2);obtain ⟨⟨x0,x1,x2,x3,x4⟩,g0,g1,g2,g3,g4⟩:=box5 hb;have HB2:=Lib.hid hb;have HF2:=Lib.hid hf2;have H2:=Lib.hid h2;clear h2 hb hf2))
    go_wp2_with fail
    refine bodyPost_ret (results_cs (by rfl) rfl _ (w.heap.size+1) (by rfl) (by rfl) _ _ _ _ _ (set5 HB2.out)) rfl ?_
    exact H2.out.lift (by first | exact (HW.out.trans HWf.out).drew | exact HW.out.trans HWf.out) hZ (Nat.le_succ _) (by have:=HBX.out.lt;first | exact Nat.lt_trans hx8 this | (simp [World.drew];omega)) _ _ _ _ _
   ·have hw9:=HF8.out (.int .i64 x.kd) (.int .i64 x.nm) (.string ⟨x.tx.toArray⟩) (.slice C x.ls.length f) (.slice C' x.ms.length f')
    have hbx:Blk _ (w.heap.size+1+1) #[.int .i64 x.kd,.int .i64 x.nm,.string ⟨x.tx.toArray⟩,.slice C x.ls.length f,.slice C' x.ms.length f'] 25:=set5 HB8.out (v0:=.int .i64 x.kd) (v1:=.int .i64 x.nm) (v2:=.string ⟨x.tx.toArray⟩) (v3:=.slice C x.ls.length f) (v4:=.slice C' x.ms.length f')
    have hx8:w.heap.size+1<w.heap.size+1+1:=by omega
    generalize (((((w1.setCell ⟨w.heap.size+1+1,0,none⟩ (.int .i64 x.kd)).setCell ⟨w.heap.size+1+1,1,none⟩ (.int .i64 x.nm)).setCell ⟨w.heap.size+1+1,2,none⟩ (.string ⟨x.tx.toArray⟩)).setCell ⟨w.heap.size+1+1,3,none⟩ (.slice C x.ls.length f)).setCell ⟨w.heap.size+1+1,4,none⟩ (.slice C' x.ms.length f'))=Wf at hw9 hbx ⊢
    generalize w.heap.size+1+1=X8 at hbx hx8 ⊢
    have HWf:=Lib.hid hw9
    have HBX:=Lib.hid hbx
    have hZf:Z≤Wf.heap.size:=Nat.le_trans hZ (HW.out.trans hw9).size
    have hin2:InV Wf (Lo Z) x (vA x C f C' f'):=HIN.out.map (fun _ h=>h) (fun b o hb=>by have hb:b<Z:=hb;rw [(HW.out.trans HWf.out).cell (by omega),(HW.out.trans HF1.out).cell (by omega)])
    have HIN2:=Lib.hid hin2
    clear hw9 hbx hin2
    have HC2:Hid (∀ W,Fr Wf W→Calls Tryz.prog 67 #[.agg #[.int .i64 x.kd,.int .i64 x.nm,.string ⟨x.tx.toArray⟩,.slice C x.ls.length f,.slice C' x.ms.length f'],.slice A' ps.length (c - 1),.bool false] W (FdP Z W (Pt.find false ps x))):=Lib.hid (fun W hW=>HF.out x C f C' f' A' (c - 1) W Z (Nat.le_trans hZf hW.size) (HIN2.out.keep hZf hW) hx63 (HPS.out W ((HW.out.trans HWf.out).trans hW)) hpc hpc2 HQ.out)
    have HS8:Hid (∀ W,Fr Wf W→W.cell? ⟨X8,0,none⟩=some (Value.int .i64 x.kd)∧W.cell? ⟨X8,1,none⟩=some (Value.int .i64 x.nm)∧W.cell? ⟨X8,2,none⟩=some (Value.string ⟨x.tx.toArray⟩)∧W.cell? ⟨X8,3,none⟩=some (Value.slice C x.ls.length f)∧W.cell? ⟨X8,4,none⟩=some (Value.slice C' x.ms.length f')):=Lib.hid (fun W hW=>by
     have h:=HBX.out.keep hW
     exact ⟨h.cell 0,h.cell 1,h.cell 2,h.cell 3,h.cell 4⟩)
    have HS85:Hid (∀ W,Fr Wf W → ∀ u0 u1 u2 u3 u4,(((((W.setCell ⟨w.heap.size+1,0,none⟩ u0).setCell ⟨w.heap.size+1,1,none⟩ u1).setCell ⟨w.heap.size+1,2,none⟩ u2).setCell ⟨w.heap.size+1,3,none⟩ u3).setCell ⟨w.heap.size+1,4,none⟩ u4).cell? ⟨X8,0,none⟩=some (Value.int .i64 x.kd)∧(((((W.setCell ⟨w.heap.size+1,0,none⟩ u0).setCell ⟨w.heap.size+1,1,none⟩ u1).setCell ⟨w.heap.size+1,2,none⟩ u2).setCell ⟨w.heap.size+1,3,none⟩ u3).setCell ⟨w.heap.size+1,4,none⟩ u4).cell? ⟨X8,1,none⟩=some (Value.int .i64 x.nm)∧(((((W.setCell ⟨w.heap.size+1,0,none⟩ u0).setCell ⟨w.heap.size+1,1,none⟩ u1).setCell ⟨w.heap.size+1,2,none⟩ u2).setCell ⟨w.heap.size+1,3,none⟩ u3).setCell ⟨w.heap.size+1,4,none⟩ u4).cell? ⟨X8,2,none⟩=some (Value.string ⟨x.tx.toArray⟩)∧(((((W.setCell ⟨w.heap.size+1,0,none⟩ u0).setCell ⟨w.heap.size+1,1,none⟩ u1).setCell ⟨w.heap.size+1,2,none⟩ u2).setCell ⟨w.heap.size+1,3,none⟩ u3).setCell ⟨w.heap.size+1,4,none⟩ u4).cell? ⟨X8,3,none⟩=some (Value.slice C x.ls.length f)∧(((((W.setCell ⟨w.heap.size+1,0,none⟩ u0).setCell ⟨w.heap.size+1,1,none⟩ u1).setCell ⟨w.heap.size+1,2,none⟩ u2).setCell ⟨w.heap.size+1,3,none⟩ u3).setCell ⟨w.heap.size+1,4,none⟩ u4).cell? ⟨X8,4,none⟩=some (Value.slice C' x.ms.length f')):=Lib.hid (fun W hW u0 u1 u2 u3 u4=>by
     have h:=HBX.out.keep hW
     have n:∀ j,(Addr.mk (w.heap.size+1) j none).block≠X8:=fun j=>by show w.heap.size+1≠X8;omega
     have h5:=((((h.other (n 0) u0).other (n 1) u1).other (n 2) u2).other (n 3) u3).other (n 4) u4
     exact ⟨h5.cell 0,h5.cell 1,h5.cell 2,h5.cell 3,h5.cell 4⟩)
    go_wp2_with fail
    go_region_held3 (fun W=>W.cell? ⟨X8,0,none⟩=some (Value.int .i64 x.kd)∧W.cell? ⟨X8,1,none⟩=some (Value.int .i64 x.nm)∧W.cell? ⟨X8,2,none⟩=some (Value.string ⟨x.tx.toArray⟩)∧W.cell? ⟨X8,3,none⟩=some (Value.slice C x.ls.length f)∧W.cell? ⟨X8,4,none⟩=some (Value.slice C' x.ms.length f'))
     (first | with_reducible exact HS85.out _ HF2.out _ _ _ _ _ | with_reducible exact HS8.out _ HF2.out | with_reducible exact HS8.out _ (Fr.refl _).drew | with_reducible exact HS8.out _ (Fr.refl _))
     (first
      | (go_at_call 67;refine (HC2.out _ (by first | with_reducible exact (Fr.refl _).drew | with_reducible exact Fr.refl _)).mono ?_;intro x2 w2 h2;obtain ⟨k3,n3,s3,A3,a3,b3,A3',a3',b3',t3,rfl⟩:=h2.form;have hf2:Fr Wf w2:=(by first | exact h2.fr | exact (Fr.refl _).drew.trans h2.fr);have hb:=HBZ.out.keep (HWf.out.trans hf2);obtain ⟨⟨x0,x1,x2,x3,x4⟩,g0,g1,g2,g3,g4⟩:=box5 hb;have HB2:=Lib.hid hb;have HF2:=Lib.hid hf2;have H2:=Lib.hid h2;clear h2 hb hf2))
    go_wp2_with fail
    refine bodyPost_ret (results_cs (by rfl) rfl _ (w.heap.size+1) (by rfl) (by rfl) _ _ _ _ _ (set5 HB2.out)) rfl ?_
    exact H2.out.lift (by first | exact (HW.out.trans HWf.out).drew | exact HW.out.trans HWf.out) hZ (Nat.le_succ _) (by have:=HBX.out.lt;first | exact Nat.lt_trans hx8 this | (simp [World.drew];omega)) _ _ _ _ _
 ·have q1:((⟨p.toArray⟩:ByteArray).toList == (⟨#[42]⟩:ByteArray).toList)=false:=(bl_beq' p [42]).trans (decide_eq_false hp)
  have q2:(p == [42])=false:=by rw [beq_eq_false_iff_ne];exact hp
  clear hp
  go_enter Tryz.func67,Tryz.ntmps67
  go_wp2_with fail
  rcases r with _ | x
  ·go_region_held3 (fun W=>W.cell? ⟨w.heap.size,0,none⟩=some (Value.int .i64 v.kd)∧W.cell? ⟨w.heap.size,1,none⟩=some (Value.int .i64 v.nm)∧W.cell? ⟨w.heap.size,2,none⟩=some (Value.string ⟨v.tx.toArray⟩)∧W.cell? ⟨w.heap.size,3,none⟩=some (Value.slice B v.ls.length d)∧W.cell? ⟨w.heap.size,4,none⟩=some (Value.slice B' v.ms.length d')∧W.cell? ⟨b,o,none⟩=some (.string ⟨p.toArray⟩))
    (first | with_reducible exact HS.out _ (HF8.out _ _ _ _ _) | with_reducible exact HS.out _ (HF9.out _ _ _ _ _) | with_reducible exact HS.out _ (HF1.out.alloc _) | with_reducible exact HS.out _ HF1.out | with_reducible exact HS.out _ ((Fr.refl _).alloc _).drew | with_reducible exact HS.out _ (Fr.refl _).drew | with_reducible exact HS.out _ (Fr.refl _))
    (first
     | (go_at_call 86;refine (HC.out _ (by with_reducible exact (HW.out.alloc _).drew)).mono ?_;rintro e w1 ⟨rfl,hf⟩;have hb8:Blk w1 (w.heap.size+1+1) #[.int .i64 0,.int .i64 0,.string ⟨#[]⟩,.slice none 0 0,.slice none 0 0] 25:=(boxy (Blk.made ((w.alloc _).alloc _) _ _)).keep ((Fr.refl _).drew.trans hf);obtain ⟨⟨z0,z1,z2,z3,z4⟩,zf0,zf1,zf2,zf3,zf4⟩:=box5 hb8;have HB8:=Lib.hid hb8;have hf1:Fr ((w.alloc (.cells #[.int .i64 v.kd,.int .i64 v.nm,.string ⟨v.tx.toArray⟩,.slice B v.ls.length d,.slice B' v.ms.length d'] 25)).alloc (.cells #[.int .i64 0,.int .i64 0,.string ⟨#[]⟩,.slice none 0 0,.slice none 0 0] 25)) w1:=(by first | exact hf | exact (Fr.refl _).drew.trans hf | exact ((Fr.refl _).alloc _).drew.trans hf);have HF8:Hid (∀ u0 u1 u2 u3 u4,Fr ((w.alloc (.cells #[.int .i64 v.kd,.int .i64 v.nm,.string ⟨v.tx.toArray⟩,.slice B v.ls.length d,.slice B' v.ms.length d'] 25)).alloc (.cells #[.int .i64 0,.int .i64 0,.string ⟨#[]⟩,.slice none 0 0,.slice none 0 0] 25)) (((((w1.setCell ⟨w.heap.size+1+1,0,none⟩ u0).setCell ⟨w.heap.size+1+1,1,none⟩ u1).setCell ⟨w.heap.size+1+1,2,none⟩ u2).setCell ⟨w.heap.size+1+1,3,none⟩ u3).setCell ⟨w.heap.size+1+1,4,none⟩ u4)):=Lib.hid (fun u0 u1 u2 u3 u4=>hf1.put5 (X:=w.heap.size+1+1) (by simp) u0 u1 u2 u3 u4);have HF9:Hid (∀ u0 u1 u2 u3 u4,Fr ((w.alloc (.cells #[.int .i64 v.kd,.int .i64 v.nm,.string ⟨v.tx.toArray⟩,.slice B v.ls.length d,.slice B' v.ms.length d'] 25)).alloc (.cells #[.int .i64 0,.int .i64 0,.string ⟨#[]⟩,.slice none 0 0,.slice none 0 0] 25)) ((((((w1.alloc (.cells #[.int .i64 0,.int .i64 0,.string ⟨#[]⟩,.slice none 0 0,.slice none 0 0] 25)).setCell ⟨w1.heap.size,0,none⟩ u0).setCell ⟨w1.heap.size,1,none⟩ u1).setCell ⟨w1.heap.size,2,none⟩ u2).setCell ⟨w1.heap.size,3,none⟩ u3).setCell ⟨w1.heap.size,4,none⟩ u4)):=Lib.hid (fun u0 u1 u2 u3 u4=>(hf1.alloc _).put5 (X:=w1.heap.size) hf1.size u0 u1 u2 u3 u4);have HF1:=Lib.hid hf1;clear hf1 hf hb8)
     | (go_at_call 86;refine (HC.out _ (by first | with_reducible exact HW.out.drew | with_reducible exact HW.out)).mono ?_;rintro e w1 ⟨rfl,hf⟩;have hf1:Fr ((w.alloc (.cells #[.int .i64 v.kd,.int .i64 v.nm,.string ⟨v.tx.toArray⟩,.slice B v.ls.length d,.slice B' v.ms.length d'] 25)).alloc (.cells #[.int .i64 0,.int .i64 0,.string ⟨#[]⟩,.slice none 0 0,.slice none 0 0] 25)) w1:=(by first | exact hf | exact (Fr.refl _).drew.trans hf | exact ((Fr.refl _).alloc _).drew.trans hf);have HF8:Hid (∀ u0 u1 u2 u3 u4,Fr ((w.alloc (.cells #[.int .i64 v.kd,.int .i64 v.nm,.string ⟨v.tx.toArray⟩,.slice B v.ls.length d,.slice B' v.ms.length d'] 25)).alloc (.cells #[.int .i64 0,.int .i64 0,.string ⟨#[]⟩,.slice none 0 0,.slice none 0 0] 25)) (((((w1.setCell ⟨w.heap.size+1+1,0,none⟩ u0).setCell ⟨w.heap.size+1+1,1,none⟩ u1).setCell ⟨w.heap.size+1+1,2,none⟩ u2).setCell ⟨w.heap.size+1+1,3,none⟩ u3).setCell ⟨w.heap.size+1+1,4,none⟩ u4)):=Lib.hid (fun u0 u1 u2 u3 u4=>hf1.put5 (X:=w.heap.size+1+1) (by simp) u0 u1 u2 u3 u4);have HF9:Hid (∀ u0 u1 u2 u3 u4,Fr ((w.alloc (.cells #[.int .i64 v.kd,.int .i64 v.nm,.string ⟨v.tx.toArray⟩,.slice B v.ls.length d,.slice B' v.ms.length d'] 25)).alloc (.cells #[.int .i64 0,.int .i64 0,.string ⟨#[]⟩,.slice none 0 0,.slice none 0 0] 25)) ((((((w1.alloc (.cells #[.int .i64 0,.int .i64 0,.string ⟨#[]⟩,.slice none 0 0,.slice none 0 0] 25)).setCell ⟨w1.heap.size,0,none⟩ u0).setCell ⟨w1.heap.size,1,none⟩ u1).setCell ⟨w1.heap.size,2,none⟩ u2).setCell ⟨w1.heap.size,3,none⟩ u3).setCell ⟨w1.heap.size,4,none⟩ u4)):=Lib.hid (fun u0 u1 u2 u3 u4=>(hf1.alloc _).put5 (X:=w1.heap.size) hf1.size u0 u1 u2 u3 u4);have HF1:=Lib.hid hf1;clear hf1 hf))
   ·have hw9:=HF1.out.alloc (.cells #[.int .i64 0,.int .i64 0,.string ⟨#[]⟩,.slice none 0 0,.slice none 0 0] 25)
    generalize (w1.alloc (.cells #[.int .i64 0,.int .i64 0,.string ⟨#[]⟩,.slice none 0 0,.slice none 0 0] 25))=Wf at hw9 ⊢
    have hb:=HBZ.out.keep hw9
    have HB:=Lib.hid hb
    have HWf:=Lib.hid hw9
    obtain ⟨⟨x0,x1,x2,x3,x4⟩,g0,g1,g2,g3,g4⟩:=box5 hb
    clear hb hw9
    go_wp2_with fail
    refine bodyPost_ret (results_cs (by rfl) rfl _ (w.heap.size+1) (by rfl) (by rfl) _ _ _ _ _ (set5 HB.out)) rfl ?_
    exact ⟨rfl,(HW.out.trans HWf.out).put5 (Nat.le_succ _) _ _ _ _ _⟩
   ·have hw9:=HF8.out (.int .i64 0) (.int .i64 0) (.string ⟨#[]⟩) (.slice none 0 0) (.slice none 0 0)
    generalize (((((w1.setCell ⟨w.heap.size+1+1,0,none⟩ (.int .i64 0)).setCell ⟨w.heap.size+1+1,1,none⟩ (.int .i64 0)).setCell ⟨w.heap.size+1+1,2,none⟩ (.string ⟨#[]⟩)).setCell ⟨w.heap.size+1+1,3,none⟩ (.slice none 0 0)).setCell ⟨w.heap.size+1+1,4,none⟩ (.slice none 0 0))=Wf at hw9 ⊢
    have hb:=HBZ.out.keep hw9
    have HB:=Lib.hid hb
    have HWf:=Lib.hid hw9
    obtain ⟨⟨x0,x1,x2,x3,x4⟩,g0,g1,g2,g3,g4⟩:=box5 hb
    clear hb hw9
    go_wp2_with fail
    refine bodyPost_ret (results_cs (by rfl) rfl _ (w.heap.size+1) (by rfl) (by rfl) _ _ _ _ _ (set5 HB.out)) rfl ?_
    exact ⟨rfl,(HW.out.trans HWf.out).put5 (Nat.le_succ _) _ _ _ _ _⟩
  ·have hx63:=hnx.out x rfl
   go_region_held3 (fun W=>W.cell? ⟨w.heap.size,0,none⟩=some (Value.int .i64 v.kd)∧W.cell? ⟨w.heap.size,1,none⟩=some (Value.int .i64 v.nm)∧W.cell? ⟨w.heap.size,2,none⟩=some (Value.string ⟨v.tx.toArray⟩)∧W.cell? ⟨w.heap.size,3,none⟩=some (Value.slice B v.ls.length d)∧W.cell? ⟨w.heap.size,4,none⟩=some (Value.slice B' v.ms.length d')∧W.cell? ⟨b,o,none⟩=some (.string ⟨p.toArray⟩))
    (first | with_reducible exact HS.out _ (HF8.out _ _ _ _ _) | with_reducible exact HS.out _ (HF9.out _ _ _ _ _) | with_reducible exact HS.out _ (HF1.out.alloc _) | with_reducible exact HS.out _ HF1.out | with_reducible exact HS.out _ ((Fr.refl _).alloc _).drew | with_reducible exact HS.out _ (Fr.refl _).drew | with_reducible exact HS.out _ (Fr.refl _))
    (first
     | (go_at_call 86;refine (HC.out _ (by with_reducible exact (HW.out.alloc _).drew)).mono ?_;rintro e w1 ⟨C,f,C',f',rfl,hin,hf⟩;have hb8:Blk w1 (w.heap.size+1+1) #[.int .i64 0,.int .i64 0,.string ⟨#[]⟩,.slice none 0 0,.slice none 0 0] 25:=(boxy (Blk.made ((w.alloc _).alloc _) _ _)).keep ((Fr.refl _).drew.trans hf);obtain ⟨⟨z0,z1,z2,z3,z4⟩,zf0,zf1,zf2,zf3,zf4⟩:=box5 hb8;have HB8:=Lib.hid hb8;have hf1:Fr ((w.alloc (.cells #[.int .i64 v.kd,.int .i64 v.nm,.string ⟨v.tx.toArray⟩,.slice B v.ls.length d,.slice B' v.ms.length d'] 25)).alloc (.cells #[.int .i64 0,.int .i64 0,.string ⟨#[]⟩,.slice none 0 0,.slice none 0 0] 25)) w1:=(by first | exact hf | exact (Fr.refl _).drew.trans hf | exact ((Fr.refl _).alloc _).drew.trans hf);have HF8:Hid (∀ u0 u1 u2 u3 u4,Fr ((w.alloc (.cells #[.int .i64 v.kd,.int .i64 v.nm,.string ⟨v.tx.toArray⟩,.slice B v.ls.length d,.slice B' v.ms.length d'] 25)).alloc (.cells #[.int .i64 0,.int .i64 0,.string ⟨#[]⟩,.slice none 0 0,.slice none 0 0] 25)) (((((w1.setCell ⟨w.heap.size+1+1,0,none⟩ u0).setCell ⟨w.heap.size+1+1,1,none⟩ u1).setCell ⟨w.heap.size+1+1,2,none⟩ u2).setCell ⟨w.heap.size+1+1,3,none⟩ u3).setCell ⟨w.heap.size+1+1,4,none⟩ u4)):=Lib.hid (fun u0 u1 u2 u3 u4=>hf1.put5 (X:=w.heap.size+1+1) (by simp) u0 u1 u2 u3 u4);have HF9:Hid (∀ u0 u1 u2 u3 u4,Fr ((w.alloc (.cells #[.int .i64 v.kd,.int .i64 v.nm,.string ⟨v.tx.toArray⟩,.slice B v.ls.length d,.slice B' v.ms.length d'] 25)).alloc (.cells #[.int .i64 0,.int .i64 0,.string ⟨#[]⟩,.slice none 0 0,.slice none 0 0] 25)) ((((((w1.alloc (.cells #[.int .i64 0,.int .i64 0,.string ⟨#[]⟩,.slice none 0 0,.slice none 0 0] 25)).setCell ⟨w1.heap.size,0,none⟩ u0).setCell ⟨w1.heap.size,1,none⟩ u1).setCell ⟨w1.heap.size,2,none⟩ u2).setCell ⟨w1.heap.size,3,none⟩ u3).setCell ⟨w1.heap.size,4,none⟩ u4)):=Lib.hid (fun u0 u1 u2 u3 u4=>(hf1.alloc _).put5 (X:=w1.heap.size) hf1.size u0 u1 u2 u3 u4);have HIN:=Lib.hid hin;have HF1:=Lib.hid hf1;clear hf1 hf hin hb8)
     | (go_at_call 86;refine (HC.out _ (by first | with_reducible exact HW.out.drew | with_reducible exact HW.out)).mono ?_;rintro e w1 ⟨C,f,C',f',rfl,hin,hf⟩;have hf1:Fr ((w.alloc (.cells #[.int .i64 v.kd,.int .i64 v.nm,.string ⟨v.tx.toArray⟩,.slice B v.ls.length d,.slice B' v.ms.length d'] 25)).alloc (.cells #[.int .i64 0,.int .i64 0,.string ⟨#[]⟩,.slice none 0 0,.slice none 0 0] 25)) w1:=(by first | exact hf | exact (Fr.refl _).drew.trans hf | exact ((Fr.refl _).alloc _).drew.trans hf);have HF8:Hid (∀ u0 u1 u2 u3 u4,Fr ((w.alloc (.cells #[.int .i64 v.kd,.int .i64 v.nm,.string ⟨v.tx.toArray⟩,.slice B v.ls.length d,.slice B' v.ms.length d'] 25)).alloc (.cells #[.int .i64 0,.int .i64 0,.string ⟨#[]⟩,.slice none 0 0,.slice none 0 0] 25)) (((((w1.setCell ⟨w.heap.size+1+1,0,none⟩ u0).setCell ⟨w.heap.size+1+1,1,none⟩ u1).setCell ⟨w.heap.size+1+1,2,none⟩ u2).setCell ⟨w.heap.size+1+1,3,none⟩ u3).setCell ⟨w.heap.size+1+1,4,none⟩ u4)):=Lib.hid (fun u0 u1 u2 u3 u4=>hf1.put5 (X:=w.heap.size+1+1) (by simp) u0 u1 u2 u3 u4);have HF9:Hid (∀ u0 u1 u2 u3 u4,Fr ((w.alloc (.cells #[.int .i64 v.kd,.int .i64 v.nm,.string ⟨v.tx.toArray⟩,.slice B v.ls.length d,.slice B' v.ms.length d'] 25)).alloc (.cells #[.int .i64 0,.int .i64 0,.string ⟨#[]⟩,.slice none 0 0,.slice none 0 0] 25)) ((((((w1.alloc (.cells #[.int .i64 0,.int .i64 0,.string ⟨#[]⟩,.slice none 0 0,.slice none 0 0] 25)).setCell ⟨w1.heap.size,0,none⟩ u0).setCell ⟨w1.heap.size,1,none⟩ u1).setCell ⟨w1.heap.size,2,none⟩ u2).setCell ⟨w1.heap.size,3,none⟩ u3).setCell ⟨w1.heap.size,4,none⟩ u4)):=Lib.hid (fun u0 u1 u2 u3 u4=>(hf1.alloc _).put5 (X:=w1.heap.size) hf1.size u0 u1 u2 u3 u4);have HIN:=Lib.hid hin;have HF1:=Lib.hid hf1;clear hf1 hf hin))
   ·have hw9:=HF1.out.alloc (.cells #[.int .i64 x.kd,.int .i64 x.nm,.string ⟨x.tx.toArray⟩,.slice C x.ls.length f,.slice C' x.ms.length f'] 25)
    have hbx:=Blk.made w1 #[.int .i64 x.kd,.int .i64 x.nm,.string ⟨x.tx.toArray⟩,.slice C x.ls.length f,.slice C' x.ms.length f'] 25
    have hx8:w.heap.size+1<w1.heap.size:=Nat.lt_of_lt_of_le HBZ.out.lt HF1.out.size
    generalize (w1.alloc (.cells #[.int .i64 x.kd,.int .i64 x.nm,.string ⟨x.tx.toArray⟩,.slice C x.ls.length f,.slice C' x.ms.length f'] 25))=Wf at hw9 hbx ⊢
    generalize w1.heap.size=X8 at hbx hx8 ⊢
    have HWf:=Lib.hid hw9
    have HBX:=Lib.hid hbx
    have hZf:Z≤Wf.heap.size:=Nat.le_trans hZ (HW.out.trans hw9).size
    have hin2:InV Wf (Lo Z) x (vA x C f C' f'):=HIN.out.map (fun _ h=>h) (fun b o hb=>by have hb:b<Z:=hb;rw [(HW.out.trans HWf.out).cell (by omega),(HW.out.trans HF1.out).cell (by omega)])
    have HIN2:=Lib.hid hin2
    clear hw9 hbx hin2
    have HC2:Hid (∀ W,Fr Wf W→Calls Tryz.prog 67 #[.agg #[.int .i64 x.kd,.int .i64 x.nm,.string ⟨x.tx.toArray⟩,.slice C x.ls.length f,.slice C' x.ms.length f'],.slice A' ps.length (c - 1),.bool true] W (FdP Z W (Pt.find true ps x))):=Lib.hid (fun W hW=>HF.out x C f C' f' A' (c - 1) W Z (Nat.le_trans hZf hW.size) (HIN2.out.keep hZf hW) hx63 (HPS.out W ((HW.out.trans HWf.out).trans hW)) hpc hpc2 HQ.out)
    have HS8:Hid (∀ W,Fr Wf W→W.cell? ⟨X8,0,none⟩=some (Value.int .i64 x.kd)∧W.cell? ⟨X8,1,none⟩=some (Value.int .i64 x.nm)∧W.cell? ⟨X8,2,none⟩=some (Value.string ⟨x.tx.toArray⟩)∧W.cell? ⟨X8,3,none⟩=some (Value.slice C x.ls.length f)∧W.cell? ⟨X8,4,none⟩=some (Value.slice C' x.ms.length f')):=Lib.hid (fun W hW=>by
     have h:=HBX.out.keep hW
     exact ⟨h.cell 0,h.cell 1,h.cell 2,h.cell 3,h.cell 4⟩)
    have HS85:Hid (∀ W,Fr Wf W → ∀ u0 u1 u2 u3 u4,(((((W.setCell ⟨w.heap.size+1,0,none⟩ u0).setCell ⟨w.heap.size+1,1,none⟩ u1).setCell ⟨w.heap.size+1,2,none⟩ u2).setCell ⟨w.heap.size+1,3,none⟩ u3).setCell ⟨w.heap.size+1,4,none⟩ u4).cell? ⟨X8,0,none⟩=some (Value.int .i64 x.kd)∧(((((W.setCell ⟨w.heap.size+1,0,none⟩ u0).setCell ⟨w.heap.size+1,1,none⟩ u1).setCell ⟨w.heap.size+1,2,none⟩ u2).setCell ⟨w.heap.size+1,3,none⟩ u3).setCell ⟨w.heap.size+1,4,none⟩ u4).cell? ⟨X8,1,none⟩=some (Value.int .i64 x.nm)∧(((((W.setCell ⟨w.heap.size+1,0,none⟩ u0).setCell ⟨w.heap.size+1,1,none⟩ u1).setCell ⟨w.heap.size+1,2,none⟩ u2).setCell ⟨w.heap.size+1,3,none⟩ u3).setCell ⟨w.heap.size+1,4,none⟩ u4).cell? ⟨X8,2,none⟩=some (Value.string ⟨x.tx.toArray⟩)∧(((((W.setCell ⟨w.heap.size+1,0,none⟩ u0).setCell ⟨w.heap.size+1,1,none⟩ u1).setCell ⟨w.heap.size+1,2,none⟩ u2).setCell ⟨w.heap.size+1,3,none⟩ u3).setCell ⟨w.heap.size+1,4,none⟩ u4).cell? ⟨X8,3,none⟩=some (Value.slice C x.ls.length f)∧(((((W.setCell ⟨w.heap.size+1,0,none⟩ u0).setCell ⟨w.heap.size+1,1,none⟩ u1).setCell ⟨w.heap.size+1,2,none⟩ u2).setCell ⟨w.heap.size+1,3,none⟩ u3).setCell ⟨w.heap.size+1,4,none⟩ u4).cell? ⟨X8,4,none⟩=some (Value.slice C' x.ms.length f')):=Lib.hid (fun W hW u0 u1 u2 u3 u4=>by
     have h:=HBX.out.keep hW
     have n:∀ j,(Addr.mk (w.heap.size+1) j none).block≠X8:=fun j=>by show w.heap.size+1≠X8;omega
     have h5:=((((h.other (n 0) u0).other (n 1) u1).other (n 2) u2).other (n 3) u3).other (n 4) u4
     exact ⟨h5.cell 0,h5.cell 1,h5.cell 2,h5.cell 3,h5.cell 4⟩)
    go_wp2_with fail
    go_region_held3 (fun W=>W.cell? ⟨X8,0,none⟩=some (Value.int .i64 x.kd)∧W.cell? ⟨X8,1,none⟩=some (Value.int .i64 x.nm)∧W.cell? ⟨X8,2,none⟩=some (Value.string ⟨x.tx.toArray⟩)∧W.cell? ⟨X8,3,none⟩=some (Value.slice C x.ls.length f)∧W.cell? ⟨X8,4,none⟩=some (Value.slice C' x.ms.length f'))
     (first | with_reducible exact HS85.out _ HF2.out _ _ _ _ _ | with_reducible exact HS8.out _ HF2.out | with_reducible exact HS8.out _ (Fr.refl _).drew | with_reducible exact HS8.out _ (Fr.refl _))
     (first
      | (go_at_call 67;refine (HC2.out _ (by first | with_reducible exact (Fr.refl _).drew | with_reducible exact Fr.refl _)).mono ?_;intro x2 w2 h2;obtain ⟨k3,n3,s3,A3,a3,b3,A3',a3',b3',t3,rfl⟩:=h2.form;have hf2:Fr Wf w2:=(by first | exact h2.fr | exact (Fr.refl _).drew.trans h2.fr);have hb:=HBZ.out.keep (HWf.out.trans hf2);obtain ⟨⟨x0,x1,x2,x3,x4⟩,g0,g1,g2,g3,g4⟩:=box5 hb;have HB2:=Lib.hid hb;have HF2:=Lib.hid hf2;have H2:=Lib.hid h2;clear h2 hb hf2))
    go_wp2_with fail
    refine bodyPost_ret (results_cs (by rfl) rfl _ (w.heap.size+1) (by rfl) (by rfl) _ _ _ _ _ (set5 HB2.out)) rfl ?_
    exact H2.out.lift (by first | exact (HW.out.trans HWf.out).drew | exact HW.out.trans HWf.out) hZ (Nat.le_succ _) (by have:=HBX.out.lt;first | exact Nat.lt_trans hx8 this | (simp [World.drew];omega)) _ _ _ _ _
   ·have hw9:=HF8.out (.int .i64 x.kd) (.int .i64 x.nm) (.string ⟨x.tx.toArray⟩) (.slice C x.ls.length f) (.slice C' x.ms.length f')
    have hbx:Blk _ (w.heap.size+1+1) #[.int .i64 x.kd,.int .i64 x.nm,.string ⟨x.tx.toArray⟩,.slice C x.ls.length f,.slice C' x.ms.length f'] 25:=set5 HB8.out (v0:=.int .i64 x.kd) (v1:=.int .i64 x.nm) (v2:=.string ⟨x.tx.toArray⟩) (v3:=.slice C x.ls.length f) (v4:=.slice C' x.ms.length f')
    have hx8:w.heap.size+1<w.heap.size+1+1:=by omega
    generalize (((((w1.setCell ⟨w.heap.size+1+1,0,none⟩ (.int .i64 x.kd)).setCell ⟨w.heap.size+1+1,1,none⟩ (.int .i64 x.nm)).setCell ⟨w.heap.size+1+1,2,none⟩ (.string ⟨x.tx.toArray⟩)).setCell ⟨w.heap.size+1+1,3,none⟩ (.slice C x.ls.length f)).setCell ⟨w.heap.size+1+1,4,none⟩ (.slice C' x.ms.length f'))=Wf at hw9 hbx ⊢
    generalize w.heap.size+1+1=X8 at hbx hx8 ⊢
    have HWf:=Lib.hid hw9
    have HBX:=Lib.hid hbx
    have hZf:Z≤Wf.heap.size:=Nat.le_trans hZ (HW.out.trans hw9).size
    have hin2:InV Wf (Lo Z) x (vA x C f C' f'):=HIN.out.map (fun _ h=>h) (fun b o hb=>by have hb:b<Z:=hb;rw [(HW.out.trans HWf.out).cell (by omega),(HW.out.trans HF1.out).cell (by omega)])
    have HIN2:=Lib.hid hin2
    clear hw9 hbx hin2
    have HC2:Hid (∀ W,Fr Wf W→Calls Tryz.prog 67 #[.agg #[.int .i64 x.kd,.int .i64 x.nm,.string ⟨x.tx.toArray⟩,.slice C x.ls.length f,.slice C' x.ms.length f'],.slice A' ps.length (c - 1),.bool true] W (FdP Z W (Pt.find true ps x))):=Lib.hid (fun W hW=>HF.out x C f C' f' A' (c - 1) W Z (Nat.le_trans hZf hW.size) (HIN2.out.keep hZf hW) hx63 (HPS.out W ((HW.out.trans HWf.out).trans hW)) hpc hpc2 HQ.out)
    have HS8:Hid (∀ W,Fr Wf W→W.cell? ⟨X8,0,none⟩=some (Value.int .i64 x.kd)∧W.cell? ⟨X8,1,none⟩=some (Value.int .i64 x.nm)∧W.cell? ⟨X8,2,none⟩=some (Value.string ⟨x.tx.toArray⟩)∧W.cell? ⟨X8,3,none⟩=some (Value.slice C x.ls.length f)∧W.cell? ⟨X8,4,none⟩=some (Value.slice C' x.ms.length f')):=Lib.hid (fun W hW=>by
     have h:=HBX.out.keep hW
     exact ⟨h.cell 0,h.cell 1,h.cell 2,h.cell 3,h.cell 4⟩)
    have HS85:Hid (∀ W,Fr Wf W → ∀ u0 u1 u2 u3 u4,(((((W.setCell ⟨w.heap.size+1,0,none⟩ u0).setCell ⟨w.heap.size+1,1,none⟩ u1).setCell ⟨w.heap.size+1,2,none⟩ u2).setCell ⟨w.heap.size+1,3,none⟩ u3).setCell ⟨w.heap.size+1,4,none⟩ u4).cell? ⟨X8,0,none⟩=some (Value.int .i64 x.kd)∧(((((W.setCell ⟨w.heap.size+1,0,none⟩ u0).setCell ⟨w.heap.size+1,1,none⟩ u1).setCell ⟨w.heap.size+1,2,none⟩ u2).setCell ⟨w.heap.size+1,3,none⟩ u3).setCell ⟨w.heap.size+1,4,none⟩ u4).cell? ⟨X8,1,none⟩=some (Value.int .i64 x.nm)∧(((((W.setCell ⟨w.heap.size+1,0,none⟩ u0).setCell ⟨w.heap.size+1,1,none⟩ u1).setCell ⟨w.heap.size+1,2,none⟩ u2).setCell ⟨w.heap.size+1,3,none⟩ u3).setCell ⟨w.heap.size+1,4,none⟩ u4).cell? ⟨X8,2,none⟩=some (Value.string ⟨x.tx.toArray⟩)∧(((((W.setCell ⟨w.heap.size+1,0,none⟩ u0).setCell ⟨w.heap.size+1,1,none⟩ u1).setCell ⟨w.heap.size+1,2,none⟩ u2).setCell ⟨w.heap.size+1,3,none⟩ u3).setCell ⟨w.heap.size+1,4,none⟩ u4).cell? ⟨X8,3,none⟩=some (Value.slice C x.ls.length f)∧(((((W.setCell ⟨w.heap.size+1,0,none⟩ u0).setCell ⟨w.heap.size+1,1,none⟩ u1).setCell ⟨w.heap.size+1,2,none⟩ u2).setCell ⟨w.heap.size+1,3,none⟩ u3).setCell ⟨w.heap.size+1,4,none⟩ u4).cell? ⟨X8,4,none⟩=some (Value.slice C' x.ms.length f')):=Lib.hid (fun W hW u0 u1 u2 u3 u4=>by
     have h:=HBX.out.keep hW
     have n:∀ j,(Addr.mk (w.heap.size+1) j none).block≠X8:=fun j=>by show w.heap.size+1≠X8;omega
     have h5:=((((h.other (n 0) u0).other (n 1) u1).other (n 2) u2).other (n 3) u3).other (n 4) u4
     exact ⟨h5.cell 0,h5.cell 1,h5.cell 2,h5.cell 3,h5.cell 4⟩)
    go_wp2_with fail
    go_region_held3 (fun W=>W.cell? ⟨X8,0,none⟩=some (Value.int .i64 x.kd)∧W.cell? ⟨X8,1,none⟩=some (Value.int .i64 x.nm)∧W.cell? ⟨X8,2,none⟩=some (Value.string ⟨x.tx.toArray⟩)∧W.cell? ⟨X8,3,none⟩=some (Value.slice C x.ls.length f)∧W.cell? ⟨X8,4,none⟩=some (Value.slice C' x.ms.length f'))
     (first | with_reducible exact HS85.out _ HF2.out _ _ _ _ _ | with_reducible exact HS8.out _ HF2.out | with_reducible exact HS8.out _ (Fr.refl _).drew | with_reducible exact HS8.out _ (Fr.refl _))
     (first
      | (go_at_call 67;refine (HC2.out _ (by first | with_reducible exact (Fr.refl _).drew | with_reducible exact Fr.refl _)).mono ?_;intro x2 w2 h2;obtain ⟨k3,n3,s3,A3,a3,b3,A3',a3',b3',t3,rfl⟩:=h2.form;have hf2:Fr Wf w2:=(by first | exact h2.fr | exact (Fr.refl _).drew.trans h2.fr);have hb:=HBZ.out.keep (HWf.out.trans hf2);obtain ⟨⟨x0,x1,x2,x3,x4⟩,g0,g1,g2,g3,g4⟩:=box5 hb;have HB2:=Lib.hid hb;have HF2:=Lib.hid hf2;have H2:=Lib.hid h2;clear h2 hb hf2))
    go_wp2_with fail
    refine bodyPost_ret (results_cs (by rfl) rfl _ (w.heap.size+1) (by rfl) (by rfl) _ _ _ _ _ (set5 HB2.out)) rfl ?_
    exact H2.out.lift (by first | exact (HW.out.trans HWf.out).drew | exact HW.out.trans HWf.out) hZ (Nat.le_succ _) (by have:=HBX.out.lt;first | exact Nat.lt_trans hx8 this | (simp [World.drew];omega)) _ _ _ _ _
 ·obtain ⟨q5,_⟩:=ikind hk
  have q1:((⟨p.toArray⟩:ByteArray).toList == (⟨#[42]⟩:ByteArray).toList)=true:=(bl_beq' p [42]).trans (decide_eq_true hp42)
  have q2:(p == [42])=true:=by rw [beq_iff_eq];exact hp42
  clear hk hp42
  go_enter Tryz.func67,Tryz.ntmps67
  go_wp2_with fail
  rcases r with _ | x
  ·go_region_held3 (fun W=>W.cell? ⟨w.heap.size,0,none⟩=some (Value.int .i64 v.kd)∧W.cell? ⟨w.heap.size,1,none⟩=some (Value.int .i64 v.nm)∧W.cell? ⟨w.heap.size,2,none⟩=some (Value.string ⟨v.tx.toArray⟩)∧W.cell? ⟨w.heap.size,3,none⟩=some (Value.slice B v.ls.length d)∧W.cell? ⟨w.heap.size,4,none⟩=some (Value.slice B' v.ms.length d')∧W.cell? ⟨b,o,none⟩=some (.string ⟨p.toArray⟩))
    (first | with_reducible exact HS.out _ (HF8.out _ _ _ _ _) | with_reducible exact HS.out _ (HF9.out _ _ _ _ _) | with_reducible exact HS.out _ (HF1.out.alloc _) | with_reducible exact HS.out _ HF1.out | with_reducible exact HS.out _ ((Fr.refl _).alloc _).drew | with_reducible exact HS.out _ (Fr.refl _).drew | with_reducible exact HS.out _ (Fr.refl _))
    (first
     | (go_at_call 86;refine (HC.out _ (by with_reducible exact (HW.out.alloc _).drew)).mono ?_;rintro e w1 ⟨rfl,hf⟩;have hb8:Blk w1 (w.heap.size+1+1) #[.int .i64 0,.int .i64 0,.string ⟨#[]⟩,.slice none 0 0,.slice none 0 0] 25:=(boxy (Blk.made ((w.alloc _).alloc _) _ _)).keep ((Fr.refl _).drew.trans hf);obtain ⟨⟨z0,z1,z2,z3,z4⟩,zf0,zf1,zf2,zf3,zf4⟩:=box5 hb8;have HB8:=Lib.hid hb8;have hf1:Fr ((w.alloc (.cells #[.int .i64 v.kd,.int .i64 v.nm,.string ⟨v.tx.toArray⟩,.slice B v.ls.length d,.slice B' v.ms.length d'] 25)).alloc (.cells #[.int .i64 0,.int .i64 0,.string ⟨#[]⟩,.slice none 0 0,.slice none 0 0] 25)) w1:=(by first | exact hf | exact (Fr.refl _).drew.trans hf | exact ((Fr.refl _).alloc _).drew.trans hf);have HF8:Hid (∀ u0 u1 u2 u3 u4,Fr ((w.alloc (.cells #[.int .i64 v.kd,.int .i64 v.nm,.string ⟨v.tx.toArray⟩,.slice B v.ls.length d,.slice B' v.ms.length d'] 25)).alloc (.cells #[.int .i64 0,.int .i64 0,.string ⟨#[]⟩,.slice none 0 0,.slice none 0 0] 25)) (((((w1.setCell ⟨w.heap.size+1+1,0,none⟩ u0).setCell ⟨w.heap.size+1+1,1,none⟩ u1).setCell ⟨w.heap.size+1+1,2,none⟩ u2).setCell ⟨w.heap.size+1+1,3,none⟩ u3).setCell ⟨w.heap.size+1+1,4,none⟩ u4)):=Lib.hid (fun u0 u1 u2 u3 u4=>hf1.put5 (X:=w.heap.size+1+1) (by simp) u0 u1 u2 u3 u4);have HF9:Hid (∀ u0 u1 u2 u3 u4,Fr ((w.alloc (.cells #[.int .i64 v.kd,.int .i64 v.nm,.string ⟨v.tx.toArray⟩,.slice B v.ls.length d,.slice B' v.ms.length d'] 25)).alloc (.cells #[.int .i64 0,.int .i64 0,.string ⟨#[]⟩,.slice none 0 0,.slice none 0 0] 25)) ((((((w1.alloc (.cells #[.int .i64 0,.int .i64 0,.string ⟨#[]⟩,.slice none 0 0,.slice none 0 0] 25)).setCell ⟨w1.heap.size,0,none⟩ u0).setCell ⟨w1.heap.size,1,none⟩ u1).setCell ⟨w1.heap.size,2,none⟩ u2).setCell ⟨w1.heap.size,3,none⟩ u3).setCell ⟨w1.heap.size,4,none⟩ u4)):=Lib.hid (fun u0 u1 u2 u3 u4=>(hf1.alloc _).put5 (X:=w1.heap.size) hf1.size u0 u1 u2 u3 u4);have HF1:=Lib.hid hf1;clear hf1 hf hb8)
     | (go_at_call 86;refine (HC.out _ (by first | with_reducible exact HW.out.drew | with_reducible exact HW.out)).mono ?_;rintro e w1 ⟨rfl,hf⟩;have hf1:Fr ((w.alloc (.cells #[.int .i64 v.kd,.int .i64 v.nm,.string ⟨v.tx.toArray⟩,.slice B v.ls.length d,.slice B' v.ms.length d'] 25)).alloc (.cells #[.int .i64 0,.int .i64 0,.string ⟨#[]⟩,.slice none 0 0,.slice none 0 0] 25)) w1:=(by first | exact hf | exact (Fr.refl _).drew.trans hf | exact ((Fr.refl _).alloc _).drew.trans hf);have HF8:Hid (∀ u0 u1 u2 u3 u4,Fr ((w.alloc (.cells #[.int .i64 v.kd,.int .i64 v.nm,.string ⟨v.tx.toArray⟩,.slice B v.ls.length d,.slice B' v.ms.length d'] 25)).alloc (.cells #[.int .i64 0,.int .i64 0,.string ⟨#[]⟩,.slice none 0 0,.slice none 0 0] 25)) (((((w1.setCell ⟨w.heap.size+1+1,0,none⟩ u0).setCell ⟨w.heap.size+1+1,1,none⟩ u1).setCell ⟨w.heap.size+1+1,2,none⟩ u2).setCell ⟨w.heap.size+1+1,3,none⟩ u3).setCell ⟨w.heap.size+1+1,4,none⟩ u4)):=Lib.hid (fun u0 u1 u2 u3 u4=>hf1.put5 (X:=w.heap.size+1+1) (by simp) u0 u1 u2 u3 u4);have HF9:Hid (∀ u0 u1 u2 u3 u4,Fr ((w.alloc (.cells #[.int .i64 v.kd,.int .i64 v.nm,.string ⟨v.tx.toArray⟩,.slice B v.ls.length d,.slice B' v.ms.length d'] 25)).alloc (.cells #[.int .i64 0,.int .i64 0,.string ⟨#[]⟩,.slice none 0 0,.slice none 0 0] 25)) ((((((w1.alloc (.cells #[.int .i64 0,.int .i64 0,.string ⟨#[]⟩,.slice none 0 0,.slice none 0 0] 25)).setCell ⟨w1.heap.size,0,none⟩ u0).setCell ⟨w1.heap.size,1,none⟩ u1).setCell ⟨w1.heap.size,2,none⟩ u2).setCell ⟨w1.heap.size,3,none⟩ u3).setCell ⟨w1.heap.size,4,none⟩ u4)):=Lib.hid (fun u0 u1 u2 u3 u4=>(hf1.alloc _).put5 (X:=w1.heap.size) hf1.size u0 u1 u2 u3 u4);have HF1:=Lib.hid hf1;clear hf1 hf))
   ·have hw9:=HF1.out.alloc (.cells #[.int .i64 0,.int .i64 0,.string ⟨#[]⟩,.slice none 0 0,.slice none 0 0] 25)
    generalize (w1.alloc (.cells #[.int .i64 0,.int .i64 0,.string ⟨#[]⟩,.slice none 0 0,.slice none 0 0] 25))=Wf at hw9 ⊢
    have hb:=HBZ.out.keep hw9
    have HB:=Lib.hid hb
    have HWf:=Lib.hid hw9
    obtain ⟨⟨x0,x1,x2,x3,x4⟩,g0,g1,g2,g3,g4⟩:=box5 hb
    clear hb hw9
    go_wp2_with fail
    refine bodyPost_ret (results_cs (by rfl) rfl _ (w.heap.size+1) (by rfl) (by rfl) _ _ _ _ _ (set5 HB.out)) rfl ?_
    exact ⟨rfl,(HW.out.trans HWf.out).put5 (Nat.le_succ _) _ _ _ _ _⟩
   ·have hw9:=HF8.out (.int .i64 0) (.int .i64 0) (.string ⟨#[]⟩) (.slice none 0 0) (.slice none 0 0)
    generalize (((((w1.setCell ⟨w.heap.size+1+1,0,none⟩ (.int .i64 0)).setCell ⟨w.heap.size+1+1,1,none⟩ (.int .i64 0)).setCell ⟨w.heap.size+1+1,2,none⟩ (.string ⟨#[]⟩)).setCell ⟨w.heap.size+1+1,3,none⟩ (.slice none 0 0)).setCell ⟨w.heap.size+1+1,4,none⟩ (.slice none 0 0))=Wf at hw9 ⊢
    have hb:=HBZ.out.keep hw9
    have HB:=Lib.hid hb
    have HWf:=Lib.hid hw9
    obtain ⟨⟨x0,x1,x2,x3,x4⟩,g0,g1,g2,g3,g4⟩:=box5 hb
    clear hb hw9
    go_wp2_with fail
    refine bodyPost_ret (results_cs (by rfl) rfl _ (w.heap.size+1) (by rfl) (by rfl) _ _ _ _ _ (set5 HB.out)) rfl ?_
    exact ⟨rfl,(HW.out.trans HWf.out).put5 (Nat.le_succ _) _ _ _ _ _⟩
  ·have hx63:=hnx.out x rfl
   go_region_held3 (fun W=>W.cell? ⟨w.heap.size,0,none⟩=some (Value.int .i64 v.kd)∧W.cell? ⟨w.heap.size,1,none⟩=some (Value.int .i64 v.nm)∧W.cell? ⟨w.heap.size,2,none⟩=some (Value.string ⟨v.tx.toArray⟩)∧W.cell? ⟨w.heap.size,3,none⟩=some (Value.slice B v.ls.length d)∧W.cell? ⟨w.heap.size,4,none⟩=some (Value.slice B' v.ms.length d')∧W.cell? ⟨b,o,none⟩=some (.string ⟨p.toArray⟩))
    (first | with_reducible exact HS.out _ (HF8.out _ _ _ _ _) | with_reducible exact HS.out _ (HF9.out _ _ _ _ _) | with_reducible exact HS.out _ (HF1.out.alloc _) | with_reducible exact HS.out _ HF1.out | with_reducible exact HS.out _ ((Fr.refl _).alloc _).drew | with_reducible exact HS.out _ (Fr.refl _).drew | with_reducible exact HS.out _ (Fr.refl _))
    (first
     | (go_at_call 86;refine (HC.out _ (by with_reducible exact (HW.out.alloc _).drew)).mono ?_;rintro e w1 ⟨C,f,C',f',rfl,hin,hf⟩;have hb8:Blk w1 (w.heap.size+1+1) #[.int .i64 0,.int .i64 0,.string ⟨#[]⟩,.slice none 0 0,.slice none 0 0] 25:=(boxy (Blk.made ((w.alloc _).alloc _) _ _)).keep ((Fr.refl _).drew.trans hf);obtain ⟨⟨z0,z1,z2,z3,z4⟩,zf0,zf1,zf2,zf3,zf4⟩:=box5 hb8;have HB8:=Lib.hid hb8;have hf1:Fr ((w.alloc (.cells #[.int .i64 v.kd,.int .i64 v.nm,.string ⟨v.tx.toArray⟩,.slice B v.ls.length d,.slice B' v.ms.length d'] 25)).alloc (.cells #[.int .i64 0,.int .i64 0,.string ⟨#[]⟩,.slice none 0 0,.slice none 0 0] 25)) w1:=(by first | exact hf | exact (Fr.refl _).drew.trans hf | exact ((Fr.refl _).alloc _).drew.trans hf);have HF8:Hid (∀ u0 u1 u2 u3 u4,Fr ((w.alloc (.cells #[.int .i64 v.kd,.int .i64 v.nm,.string ⟨v.tx.toArray⟩,.slice B v.ls.length d,.slice B' v.ms.length d'] 25)).alloc (.cells #[.int .i64 0,.int .i64 0,.string ⟨#[]⟩,.slice none 0 0,.slice none 0 0] 25)) (((((w1.setCell ⟨w.heap.size+1+1,0,none⟩ u0).setCell ⟨w.heap.size+1+1,1,none⟩ u1).setCell ⟨w.heap.size+1+1,2,none⟩ u2).setCell ⟨w.heap.size+1+1,3,none⟩ u3).setCell ⟨w.heap.size+1+1,4,none⟩ u4)):=Lib.hid (fun u0 u1 u2 u3 u4=>hf1.put5 (X:=w.heap.size+1+1) (by simp) u0 u1 u2 u3 u4);have HF9:Hid (∀ u0 u1 u2 u3 u4,Fr ((w.alloc (.cells #[.int .i64 v.kd,.int .i64 v.nm,.string ⟨v.tx.toArray⟩,.slice B v.ls.length d,.slice B' v.ms.length d'] 25)).alloc (.cells #[.int .i64 0,.int .i64 0,.string ⟨#[]⟩,.slice none 0 0,.slice none 0 0] 25)) ((((((w1.alloc (.cells #[.int .i64 0,.int .i64 0,.string ⟨#[]⟩,.slice none 0 0,.slice none 0 0] 25)).setCell ⟨w1.heap.size,0,none⟩ u0).setCell ⟨w1.heap.size,1,none⟩ u1).setCell ⟨w1.heap.size,2,none⟩ u2).setCell ⟨w1.heap.size,3,none⟩ u3).setCell ⟨w1.heap.size,4,none⟩ u4)):=Lib.hid (fun u0 u1 u2 u3 u4=>(hf1.alloc _).put5 (X:=w1.heap.size) hf1.size u0 u1 u2 u3 u4);have HIN:=Lib.hid hin;have HF1:=Lib.hid hf1;clear hf1 hf hin hb8)
     | (go_at_call 86;refine (HC.out _ (by first | with_reducible exact HW.out.drew | with_reducible exact HW.out)).mono ?_;rintro e w1 ⟨C,f,C',f',rfl,hin,hf⟩;have hf1:Fr ((w.alloc (.cells #[.int .i64 v.kd,.int .i64 v.nm,.string ⟨v.tx.toArray⟩,.slice B v.ls.length d,.slice B' v.ms.length d'] 25)).alloc (.cells #[.int .i64 0,.int .i64 0,.string ⟨#[]⟩,.slice none 0 0,.slice none 0 0] 25)) w1:=(by first | exact hf | exact (Fr.refl _).drew.trans hf | exact ((Fr.refl _).alloc _).drew.trans hf);have HF8:Hid (∀ u0 u1 u2 u3 u4,Fr ((w.alloc (.cells #[.int .i64 v.kd,.int .i64 v.nm,.string ⟨v.tx.toArray⟩,.slice B v.ls.length d,.slice B' v.ms.length d'] 25)).alloc (.cells #[.int .i64 0,.int .i64 0,.string ⟨#[]⟩,.slice none 0 0,.slice none 0 0] 25)) (((((w1.setCell ⟨w.heap.size+1+1,0,none⟩ u0).setCell ⟨w.heap.size+1+1,1,none⟩ u1).setCell ⟨w.heap.size+1+1,2,none⟩ u2).setCell ⟨w.heap.size+1+1,3,none⟩ u3).setCell ⟨w.heap.size+1+1,4,none⟩ u4)):=Lib.hid (fun u0 u1 u2 u3 u4=>hf1.put5 (X:=w.heap.size+1+1) (by simp) u0 u1 u2 u3 u4);have HF9:Hid (∀ u0 u1 u2 u3 u4,Fr ((w.alloc (.cells #[.int .i64 v.kd,.int .i64 v.nm,.string ⟨v.tx.toArray⟩,.slice B v.ls.length d,.slice B' v.ms.length d'] 25)).alloc (.cells #[.int .i64 0,.int .i64 0,.string ⟨#[]⟩,.slice none 0 0,.slice none 0 0] 25)) ((((((w1.alloc (.cells #[.int .i64 0,.int .i64 0,.string ⟨#[]⟩,.slice none 0 0,.slice none 0 0] 25)).setCell ⟨w1.heap.size,0,none⟩ u0).setCell ⟨w1.heap.size,1,none⟩ u1).setCell ⟨w1.heap.size,2,none⟩ u2).setCell ⟨w1.heap.size,3,none⟩ u3).setCell ⟨w1.heap.size,4,none⟩ u4)):=Lib.hid (fun u0 u1 u2 u3 u4=>(hf1.alloc _).put5 (X:=w1.heap.size) hf1.size u0 u1 u2 u3 u4);have HIN:=Lib.hid hin;have HF1:=Lib.hid hf1;clear hf1 hf hin))
   ·have hw9:=HF1.out.alloc (.cells #[.int .i64 x.kd,.int .i64 x.nm,.string ⟨x.tx.toArray⟩,.slice C x.ls.length f,.slice C' x.ms.length f'] 25)
    have hbx:=Blk.made w1 #[.int .i64 x.kd,.int .i64 x.nm,.string ⟨x.tx.toArray⟩,.slice C x.ls.length f,.slice C' x.ms.length f'] 25
    have hx8:w.heap.size+1<w1.heap.size:=Nat.lt_of_lt_of_le HBZ.out.lt HF1.out.size
    generalize (w1.alloc (.cells #[.int .i64 x.kd,.int .i64 x.nm,.string ⟨x.tx.toArray⟩,.slice C x.ls.length f,.slice C' x.ms.length f'] 25))=Wf at hw9 hbx ⊢
    generalize w1.heap.size=X8 at hbx hx8 ⊢
    have HWf:=Lib.hid hw9
    have HBX:=Lib.hid hbx
    have hZf:Z≤Wf.heap.size:=Nat.le_trans hZ (HW.out.trans hw9).size
    have hin2:InV Wf (Lo Z) x (vA x C f C' f'):=HIN.out.map (fun _ h=>h) (fun b o hb=>by have hb:b<Z:=hb;rw [(HW.out.trans HWf.out).cell (by omega),(HW.out.trans HF1.out).cell (by omega)])
    have HIN2:=Lib.hid hin2
    clear hw9 hbx hin2
    have HC2:Hid (∀ W,Fr Wf W→Calls Tryz.prog 67 #[.agg #[.int .i64 x.kd,.int .i64 x.nm,.string ⟨x.tx.toArray⟩,.slice C x.ls.length f,.slice C' x.ms.length f'],.slice A' ps.length (c - 1),.bool true] W (FdP Z W (Pt.find true ps x))):=Lib.hid (fun W hW=>HF.out x C f C' f' A' (c - 1) W Z (Nat.le_trans hZf hW.size) (HIN2.out.keep hZf hW) hx63 (HPS.out W ((HW.out.trans HWf.out).trans hW)) hpc hpc2 HQ.out)
    have HS8:Hid (∀ W,Fr Wf W→W.cell? ⟨X8,0,none⟩=some (Value.int .i64 x.kd)∧W.cell? ⟨X8,1,none⟩=some (Value.int .i64 x.nm)∧W.cell? ⟨X8,2,none⟩=some (Value.string ⟨x.tx.toArray⟩)∧W.cell? ⟨X8,3,none⟩=some (Value.slice C x.ls.length f)∧W.cell? ⟨X8,4,none⟩=some (Value.slice C' x.ms.length f')):=Lib.hid (fun W hW=>by
     have h:=HBX.out.keep hW
     exact ⟨h.cell 0,h.cell 1,h.cell 2,h.cell 3,h.cell 4⟩)
    have HS85:Hid (∀ W,Fr Wf W → ∀ u0 u1 u2 u3 u4,(((((W.setCell ⟨w.heap.size+1,0,none⟩ u0).setCell ⟨w.heap.size+1,1,none⟩ u1).setCell ⟨w.heap.size+1,2,none⟩ u2).setCell ⟨w.heap.size+1,3,none⟩ u3).setCell ⟨w.heap.size+1,4,none⟩ u4).cell? ⟨X8,0,none⟩=some (Value.int .i64 x.kd)∧(((((W.setCell ⟨w.heap.size+1,0,none⟩ u0).setCell ⟨w.heap.size+1,1,none⟩ u1).setCell ⟨w.heap.size+1,2,none⟩ u2).setCell ⟨w.heap.size+1,3,none⟩ u3).setCell ⟨w.heap.size+1,4,none⟩ u4).cell? ⟨X8,1,none⟩=some (Value.int .i64 x.nm)∧(((((W.setCell ⟨w.heap.size+1,0,none⟩ u0).setCell ⟨w.heap.size+1,1,none⟩ u1).setCell ⟨w.heap.size+1,2,none⟩ u2).setCell ⟨w.heap.size+1,3,none⟩ u3).setCell ⟨w.heap.size+1,4,none⟩ u4).cell? ⟨X8,2,none⟩=some (Value.string ⟨x.tx.toArray⟩)∧(((((W.setCell ⟨w.heap.size+1,0,none⟩ u0).setCell ⟨w.heap.size+1,1,none⟩ u1).setCell ⟨w.heap.size+1,2,none⟩ u2).setCell ⟨w.heap.size+1,3,none⟩ u3).setCell ⟨w.heap.size+1,4,none⟩ u4).cell? ⟨X8,3,none⟩=some (Value.slice C x.ls.length f)∧(((((W.setCell ⟨w.heap.size+1,0,none⟩ u0).setCell ⟨w.heap.size+1,1,none⟩ u1).setCell ⟨w.heap.size+1,2,none⟩ u2).setCell ⟨w.heap.size+1,3,none⟩ u3).setCell ⟨w.heap.size+1,4,none⟩ u4).cell? ⟨X8,4,none⟩=some (Value.slice C' x.ms.length f')):=Lib.hid (fun W hW u0 u1 u2 u3 u4=>by
     have h:=HBX.out.keep hW
     have n:∀ j,(Addr.mk (w.heap.size+1) j none).block≠X8:=fun j=>by show w.heap.size+1≠X8;omega
     have h5:=((((h.other (n 0) u0).other (n 1) u1).other (n 2) u2).other (n 3) u3).other (n 4) u4
     exact ⟨h5.cell 0,h5.cell 1,h5.cell 2,h5.cell 3,h5.cell 4⟩)
    go_wp2_with fail
    go_region_held3 (fun W=>W.cell? ⟨X8,0,none⟩=some (Value.int .i64 x.kd)∧W.cell? ⟨X8,1,none⟩=some (Value.int .i64 x.nm)∧W.cell? ⟨X8,2,none⟩=some (Value.string ⟨x.tx.toArray⟩)∧W.cell? ⟨X8,3,none⟩=some (Value.slice C x.ls.length f)∧W.cell? ⟨X8,4,none⟩=some (Value.slice C' x.ms.length f'))
     (first | with_reducible exact HS85.out _ HF2.out _ _ _ _ _ | with_reducible exact HS8.out _ HF2.out | with_reducible exact HS8.out _ (Fr.refl _).drew | with_reducible exact HS8.out _ (Fr.refl _))
     (first
      | (go_at_call 67;refine (HC2.out _ (by first | with_reducible exact (Fr.refl _).drew | with_reducible exact Fr.refl _)).mono ?_;intro x2 w2 h2;obtain ⟨k3,n3,s3,A3,a3,b3,A3',a3',b3',t3,rfl⟩:=h2.form;have hf2:Fr Wf w2:=(by first | exact h2.fr | exact (Fr.refl _).drew.trans h2.fr);have hb:=HBZ.out.keep (HWf.out.trans hf2);obtain ⟨⟨x0,x1,x2,x3,x4⟩,g0,g1,g2,g3,g4⟩:=box5 hb;have HB2:=Lib.hid hb;have HF2:=Lib.hid hf2;have H2:=Lib.hid h2;clear h2 hb hf2))
    go_wp2_with fail
    refine bodyPost_ret (results_cs (by rfl) rfl _ (w.heap.size+1) (by rfl) (by rfl) _ _ _ _ _ (set5 HB2.out)) rfl ?_
    exact H2.out.lift (by first | exact (HW.out.trans HWf.out).drew | exact HW.out.trans HWf.out) hZ (Nat.le_succ _) (by have:=HBX.out.lt;first | exact Nat.lt_trans hx8 this | (simp [World.drew];omega)) _ _ _ _ _
   ·have hw9:=HF8.out (.int .i64 x.kd) (.int .i64 x.nm) (.string ⟨x.tx.toArray⟩) (.slice C x.ls.length f) (.slice C' x.ms.length f')
    have hbx:Blk _ (w.heap.size+1+1) #[.int .i64 x.kd,.int .i64 x.nm,.string ⟨x.tx.toArray⟩,.slice C x.ls.length f,.slice C' x.ms.length f'] 25:=set5 HB8.out (v0:=.int .i64 x.kd) (v1:=.int .i64 x.nm) (v2:=.string ⟨x.tx.toArray⟩) (v3:=.slice C x.ls.length f) (v4:=.slice C' x.ms.length f')
    have hx8:w.heap.size+1<w.heap.size+1+1:=by omega
    generalize (((((w1.setCell ⟨w.heap.size+1+1,0,none⟩ (.int .i64 x.kd)).setCell ⟨w.heap.size+1+1,1,none⟩ (.int .i64 x.nm)).setCell ⟨w.heap.size+1+1,2,none⟩ (.string ⟨x.tx.toArray⟩)).setCell ⟨w.heap.size+1+1,3,none⟩ (.slice C x.ls.length f)).setCell ⟨w.heap.size+1+1,4,none⟩ (.slice C' x.ms.length f'))=Wf at hw9 hbx ⊢
    generalize w.heap.size+1+1=X8 at hbx hx8 ⊢
    have HWf:=Lib.hid hw9
    have HBX:=Lib.hid hbx
    have hZf:Z≤Wf.heap.size:=Nat.le_trans hZ (HW.out.trans hw9).size
    have hin2:InV Wf (Lo Z) x (vA x C f C' f'):=HIN.out.map (fun _ h=>h) (fun b o hb=>by have hb:b<Z:=hb;rw [(HW.out.trans HWf.out).cell (by omega),(HW.out.trans HF1.out).cell (by omega)])
    have HIN2:=Lib.hid hin2
    clear hw9 hbx hin2
    have HC2:Hid (∀ W,Fr Wf W→Calls Tryz.prog 67 #[.agg #[.int .i64 x.kd,.int .i64 x.nm,.string ⟨x.tx.toArray⟩,.slice C x.ls.length f,.slice C' x.ms.length f'],.slice A' ps.length (c - 1),.bool true] W (FdP Z W (Pt.find true ps x))):=Lib.hid (fun W hW=>HF.out x C f C' f' A' (c - 1) W Z (Nat.le_trans hZf hW.size) (HIN2.out.keep hZf hW) hx63 (HPS.out W ((HW.out.trans HWf.out).trans hW)) hpc hpc2 HQ.out)
    have HS8:Hid (∀ W,Fr Wf W→W.cell? ⟨X8,0,none⟩=some (Value.int .i64 x.kd)∧W.cell? ⟨X8,1,none⟩=some (Value.int .i64 x.nm)∧W.cell? ⟨X8,2,none⟩=some (Value.string ⟨x.tx.toArray⟩)∧W.cell? ⟨X8,3,none⟩=some (Value.slice C x.ls.length f)∧W.cell? ⟨X8,4,none⟩=some (Value.slice C' x.ms.length f')):=Lib.hid (fun W hW=>by
     have h:=HBX.out.keep hW
     exact ⟨h.cell 0,h.cell 1,h.cell 2,h.cell 3,h.cell 4⟩)
    have HS85:Hid (∀ W,Fr Wf W → ∀ u0 u1 u2 u3 u4,(((((W.setCell ⟨w.heap.size+1,0,none⟩ u0).setCell ⟨w.heap.size+1,1,none⟩ u1).setCell ⟨w.heap.size+1,2,none⟩ u2).setCell ⟨w.heap.size+1,3,none⟩ u3).setCell ⟨w.heap.size+1,4,none⟩ u4).cell? ⟨X8,0,none⟩=some (Value.int .i64 x.kd)∧(((((W.setCell ⟨w.heap.size+1,0,none⟩ u0).setCell ⟨w.heap.size+1,1,none⟩ u1).setCell ⟨w.heap.size+1,2,none⟩ u2).setCell ⟨w.heap.size+1,3,none⟩ u3).setCell ⟨w.heap.size+1,4,none⟩ u4).cell? ⟨X8,1,none⟩=some (Value.int .i64 x.nm)∧(((((W.setCell ⟨w.heap.size+1,0,none⟩ u0).setCell ⟨w.heap.size+1,1,none⟩ u1).setCell ⟨w.heap.size+1,2,none⟩ u2).setCell ⟨w.heap.size+1,3,none⟩ u3).setCell ⟨w.heap.size+1,4,none⟩ u4).cell? ⟨X8,2,none⟩=some (Value.string ⟨x.tx.toArray⟩)∧(((((W.setCell ⟨w.heap.size+1,0,none⟩ u0).setCell ⟨w.heap.size+1,1,none⟩ u1).setCell ⟨w.heap.size+1,2,none⟩ u2).setCell ⟨w.heap.size+1,3,none⟩ u3).setCell ⟨w.heap.size+1,4,none⟩ u4).cell? ⟨X8,3,none⟩=some (Value.slice C x.ls.length f)∧(((((W.setCell ⟨w.heap.size+1,0,none⟩ u0).setCell ⟨w.heap.size+1,1,none⟩ u1).setCell ⟨w.heap.size+1,2,none⟩ u2).setCell ⟨w.heap.size+1,3,none⟩ u3).setCell ⟨w.heap.size+1,4,none⟩ u4).cell? ⟨X8,4,none⟩=some (Value.slice C' x.ms.length f')):=Lib.hid (fun W hW u0 u1 u2 u3 u4=>by
     have h:=HBX.out.keep hW
     have n:∀ j,(Addr.mk (w.heap.size+1) j none).block≠X8:=fun j=>by show w.heap.size+1≠X8;omega
     have h5:=((((h.other (n 0) u0).other (n 1) u1).other (n 2) u2).other (n 3) u3).other (n 4) u4
     exact ⟨h5.cell 0,h5.cell 1,h5.cell 2,h5.cell 3,h5.cell 4⟩)
    go_wp2_with fail
    go_region_held3 (fun W=>W.cell? ⟨X8,0,none⟩=some (Value.int .i64 x.kd)∧W.cell? ⟨X8,1,none⟩=some (Value.int .i64 x.nm)∧W.cell? ⟨X8,2,none⟩=some (Value.string ⟨x.tx.toArray⟩)∧W.cell? ⟨X8,3,none⟩=some (Value.slice C x.ls.length f)∧W.cell? ⟨X8,4,none⟩=some (Value.slice C' x.ms.length f'))
     (first | with_reducible exact HS85.out _ HF2.out _ _ _ _ _ | with_reducible exact HS8.out _ HF2.out | with_reducible exact HS8.out _ (Fr.refl _).drew | with_reducible exact HS8.out _ (Fr.refl _))
     (first
      | (go_at_call 67;refine (HC2.out _ (by first | with_reducible exact (Fr.refl _).drew | with_reducible exact Fr.refl _)).mono ?_;intro x2 w2 h2;obtain ⟨k3,n3,s3,A3,a3,b3,A3',a3',b3',t3,rfl⟩:=h2.form;have hf2:Fr Wf w2:=(by first | exact h2.fr | exact (Fr.refl _).drew.trans h2.fr);have hb:=HBZ.out.keep (HWf.out.trans hf2);obtain ⟨⟨x0,x1,x2,x3,x4⟩,g0,g1,g2,g3,g4⟩:=box5 hb;have HB2:=Lib.hid hb;have HF2:=Lib.hid hf2;have H2:=Lib.hid h2;clear h2 hb hf2))
    go_wp2_with fail
    refine bodyPost_ret (results_cs (by rfl) rfl _ (w.heap.size+1) (by rfl) (by rfl) _ _ _ _ _ (set5 HB2.out)) rfl ?_
    exact H2.out.lift (by first | exact (HW.out.trans HWf.out).drew | exact HW.out.trans HWf.out) hZ (Nat.le_succ _) (by have:=HBX.out.lt;first | exact Nat.lt_trans hx8 this | (simp [World.drew];omega)) _ _ _ _ _
theorem find_is (st:Bool):∀ ps,FindAt st ps
 | []=>find_nil_is st
 | p::ps=>find_cons_is st p ps (find_is st ps)
end Go.Proofs.YtdhakbghdcfncaaGreatDoor
