/- The walk of refs.Resolve. -/
import Derived.Test.YtdhakbghdcfncaaGreatDoorRff
import Derived.Test.YtdhakbghdcfncaaGreatDoorCpa
namespace Go.Proofs.YtdhakbghdcfncaaGreatDoor
set_option maxRecDepth 100000
set_option maxHeartbeats 16000000
set_option linter.unusedVariables false
set_option linter.unusedSimpArgs false
open Go.RowKit

theorem box6c {w:World} {X:Nat} {a b c d e f:Value} {T:TypeId} (h:Blk w X #[a,b,c,d,e,f] T):w.cell? ⟨X,0,none⟩=some a∧w.cell? ⟨X,1,none⟩=some b∧w.cell? ⟨X,2,none⟩=some c∧w.cell? ⟨X,3,none⟩=some d∧w.cell? ⟨X,4,none⟩=some e∧w.cell? ⟨X,5,none⟩=some f:=
 ⟨h.cell 0,h.cell 1,h.cell 2,h.cell 3,h.cell 4,h.cell 5⟩
theorem cutp_at (nm bn:List UInt8) (bb:Bool) (w:World) (h:Rf.bare nm=(bn,bb)):
  Calls Tryz.prog 37 #[.string ⟨nm.toArray⟩,.string ⟨#[35]⟩] w fun e w'=>e=.returned (.tuple #[.string ⟨bn.toArray⟩,.bool bb])∧w=w':=by
 refine (Tryz.strings_CutPrefix ⟨nm.toArray⟩ ⟨#[35]⟩ w).mono ?_
 rintro e w' ⟨rfl,rfl⟩
 refine ⟨?_,rfl⟩
 have h1:Lib.trimPrefix nm [35]=bn:=by rw [Rf.trim_bare,h]
 have h2:Lib.hasPrefix nm [35]=bb:=by rw [Rf.pre_bare,h]
 show Ending.returned (.tuple #[.string ⟨(Lib.trimPrefix nm [35]).toArray⟩,.bool (Lib.hasPrefix nm [35])])=_
 rw [h1,h2]
theorem InV.msC' {W:World} {S:Nat→Prop} {v:JV} {B:Option Addr} {d:Nat} {B':Option Addr} {d':Nat} (h:InV W S v (vA v B d B' d')):MsC W S B' v.ms:=by
 obtain ⟨Q,q,Q',q',he,_,hms⟩:=h.open_
 have hA:B'=Q':=by obtain ⟨_,_,_,_,e4⟩:=five he;injection e4
 rw [hA];exact hms
theorem CqI.skip {W:World} {g:Nat} {m:List (List UInt8 × JV)} {S O:Nat→Prop} {i:Nat} (h:CqI W g m S O i) (hO:∀ b,O b→S b):CqI W g m S O (i+1):=⟨h.blk,fun k hk=>by
 obtain ⟨C,f,C',f',h0,h00,h1,h2⟩:=h.at_ k hk
 refine ⟨C,f,C',f',h0,h00,h1,h2.more (fun b hb=>?_)⟩
 split at hb <;> split
 ·exact hb
 ·exfalso;omega
 ·exact hO b hb
 ·exact hb⟩
theorem CqI.put2 {W:World} {g:Nat} {m:List (List UInt8 × JV)} {S O:Nat→Prop} {n:Nat} (h:CqI W g m S O n) {i:Nat} (hi:i<m.length) (hin:i<n) (hS:∀ b,S b→b≠g) (hO:∀ b,O b→b≠g) {s:List UInt8} {x:JV} (hs:s.length≤140737488355328) {C:Option Addr} {f:Nat} {C':Option Addr} {f':Nat} (hx:InV W S x (vA x C f C' f')):
  CqI (st6q W g (i*6) (.string ⟨s.toArray⟩) (.int .i64 x.kd) (.int .i64 x.nm) (.string ⟨x.tx.toArray⟩) (.slice C x.ls.length f) (.slice C' x.ms.length f')) g (m.set i (s,x)) S O n:=by
 obtain ⟨cur,hb,hz⟩:=h.blk
 have hb0:=hb.set (i*6) (.string ⟨s.toArray⟩)
 have hat:=put5g_at (W.setCell ⟨g,i*6,none⟩ (.string ⟨s.toArray⟩)) g (i*6+1) (.int .i64 x.kd) (.int .i64 x.nm) (.string ⟨x.tx.toArray⟩) (.slice C x.ls.length f) (.slice C' x.ms.length f') (fun j hj=>⟨_,(hb0.cell (i*6+1+j)).trans (Array.getElem?_eq_getElem (by simp;omega))⟩)
 have hot:=put5g_other (W.setCell ⟨g,i*6,none⟩ (.string ⟨s.toArray⟩)) g (i*6+1) (.int .i64 x.kd) (.int .i64 x.nm) (.string ⟨x.tx.toArray⟩) (.slice C x.ls.length f) (.slice C' x.ms.length f')
 obtain ⟨cur',hb',hz'⟩:=st6q_blk (o:=i*6) hb (.string ⟨s.toArray⟩) (.int .i64 x.kd) (.int .i64 x.nm) (.string ⟨x.tx.toArray⟩) (.slice C x.ls.length f) (.slice C' x.ms.length f')
 have hne0:∀ b o,b≠g→(W.setCell ⟨g,i*6,none⟩ (.string ⟨s.toArray⟩)).cell? ⟨b,o,none⟩=W.cell? ⟨b,o,none⟩:=fun b o hb=>World.cell?_setCell_other _ _ _ _ (fun e=>by injection e with e _ _;exact hb e.symm)
 have hnm0:∀ k,(W.setCell ⟨g,i*6,none⟩ (.string ⟨s.toArray⟩)).cell? ⟨g,k*6,none⟩=if i=k then some (.string ⟨s.toArray⟩) else W.cell? ⟨g,k*6,none⟩:=fun k=>by
  rw [hb0.cell,hb.cell,Array.getElem?_setIfInBounds]
  by_cases e:i=k
  ·subst e;rw [if_pos rfl,if_pos rfl,if_pos (by omega)]
  ·rw [if_neg (by omega),if_neg e]
 have hc0:∀ k j,j<5→(W.setCell ⟨g,i*6,none⟩ (.string ⟨s.toArray⟩)).cell? ⟨g,k*6+1+j,none⟩=W.cell? ⟨g,k*6+1+j,none⟩:=fun k j hj=>by
  rw [hb0.cell,hb.cell,Array.getElem?_setIfInBounds,if_neg (by omega)]
 rw [st6q_eq] at hb' ⊢
 unfold st5g at hb' ⊢
 generalize (W.setCell ⟨g,i*6,none⟩ (.string ⟨s.toArray⟩))=W1 at hat hot hb' hne0 hnm0 hc0 ⊢
 generalize (((((W1.setCell ⟨g,i*6+1,none⟩ (.int .i64 x.kd)).setCell ⟨g,i*6+1+1,none⟩ (.int .i64 x.nm)).setCell ⟨g,i*6+1+2,none⟩ (.string ⟨x.tx.toArray⟩)).setCell ⟨g,i*6+1+3,none⟩ (.slice C x.ls.length f)).setCell ⟨g,i*6+1+4,none⟩ (.slice C' x.ms.length f'))=W9 at hat hot hb' ⊢
 have hne:∀ b o,b≠g→W9.cell? ⟨b,o,none⟩=W.cell? ⟨b,o,none⟩:=fun b o hb=>(hot _ (fun j _ e=>by injection e with e _ _;exact hb e.symm)).trans (hne0 b o hb)
 have hnm:∀ k,W9.cell? ⟨g,k*6,none⟩=if i=k then some (.string ⟨s.toArray⟩) else W.cell? ⟨g,k*6,none⟩:=fun k=>(hot _ (fun j' hj' e=>by injection e;omega)).trans (hnm0 k)
 refine ⟨⟨cur',hb',by rw [List.length_set];omega⟩,fun k hk=>?_⟩
 have hk':k<m.length:=by simpa using hk
 rw [List.getElem_set]
 by_cases e:i=k
 ·subst e
  rw [if_pos rfl,if_pos (show i<n by omega)]
  exact ⟨C,f,C',f',hs,(hnm i).trans (if_pos rfl),⟨hat.1,hat.2.1,hat.2.2.1,hat.2.2.2.1,hat.2.2.2.2⟩,hx.map (fun _ h=>h) (fun b o hb=>hne b o (hS b hb))⟩
 ·rw [if_neg e]
  obtain ⟨D,d,D',d',h0,h00,h1,h2⟩:=h.at_ k hk'
  have hcell:∀ j,j<5→W9.cell? ⟨g,k*6+1+j,none⟩=W.cell? ⟨g,k*6+1+j,none⟩:=fun j hj=>(hot _ (fun j' hj' e=>by injection e;omega)).trans (hc0 k j hj)
  exact ⟨D,d,D',d',h0,((hnm k).trans (if_neg e)).trans h00,⟨(hcell 0 (by omega)).trans h1.1,(hcell 1 (by omega)).trans h1.2.1,(hcell 2 (by omega)).trans h1.2.2.1,(hcell 3 (by omega)).trans h1.2.2.2.1,(hcell 4 (by omega)).trans h1.2.2.2.2⟩,h2.map (fun _ h=>h) (fun b o hb=>hne b o (ite_ne hS hO b hb))⟩
def ReP (w:World):Except Nat JV→Ending→World→Prop
 | .error n,e,w'=>e=.returned (.tuple #[.agg #[.int .i64 0,.int .i64 0,.string ⟨#[]⟩,.slice none 0 0,.slice none 0 0],.int .i64 n])∧Fr w w'
 | .ok y,e,w'=>∃ (D:Option Addr) (g:Nat),e=.returned (.tuple #[.agg #[.int .i64 6,.int .i64 0,.string ⟨#[]⟩,.slice none 0 0,.slice D y.ms.length g],.int .i64 0])∧y=JV.mapV y.ms∧InV w' (Lo w'.heap.size) y (.agg #[.int .i64 6,.int .i64 0,.string ⟨#[]⟩,.slice none 0 0,.slice D y.ms.length g])∧(0<y.ms.length → ∃ b cur,D=some ⟨b,0,none⟩∧w.heap.size≤b∧Blk w' b cur 39∧y.ms.length*6≤cur.size)∧Fr w w'
theorem resolve_no (v:JV) (B:Option Addr) (d:Nat) (B':Option Addr) (d':Nat) (l:List CallV) (A:Option Addr) (c:Nat) (w:World) (Z:Nat) (hZ:Z≤w.heap.size) (h:InV w (Lo Z) v (vA v B d B' d')) (hm:v.ms.length≤140737488355327) (hk:¬ (v.kd=6∧Rf.twice v.ms=false)):
  Calls Tryz.prog 14 #[.agg #[.int .i64 v.kd,.int .i64 v.nm,.string ⟨v.tx.toArray⟩,.slice B v.ls.length d,.slice B' v.ms.length d'],.slice A l.length c] w (ReP w (Rf.resolve v l)):=by
 have HR:Hid (Rf.resolve v l=.error 1):=Lib.hid (by unfold Rf.resolve;rw [if_neg hk])
 have HTW:Hid (∀ W,Fr w W→Calls Tryz.prog 35 #[.slice B' v.ms.length d'] W fun e w'=>e=.returned (.bool (Rf.twice v.ms))∧Fr W w'):=Lib.hid (fun W hW=>rtwice_is v.ms B' d' W ((h.keep hZ hW).lo (Nat.le_trans hZ hW.size)).msC' hm)
 have hb:(v.kd != 6)=true∨((v.kd != 6)=false∧Rf.twice v.ms=true):=by
  by_cases h6:v.kd=6
  ·refine .inr ⟨by rw [h6];rfl,?_⟩
   cases ht:Rf.twice v.ms
   ·exact absurd ⟨h6,ht⟩ hk
   ·rfl
  ·exact .inl (by rw [bne_iff_ne];exact h6)
 clear h hk
 go_enter Tryz.func14,Tryz.ntmps14
 go_upto_region 1 with fail
 have hx0:Blk ((w.alloc (.cells #[.int .i64 v.kd,.int .i64 v.nm,.string ⟨v.tx.toArray⟩,.slice B v.ls.length d,.slice B' v.ms.length d'] 25)).alloc (.cells #[.int .i64 0,.int .i64 0,.string ⟨#[]⟩,.slice none 0 0,.slice none 0 0] 25)) w.heap.size #[.int .i64 v.kd,.int .i64 v.nm,.string ⟨v.tx.toArray⟩,.slice B v.ls.length d,.slice B' v.ms.length d'] 25:=(Blk.made w _ _).keep ((Fr.refl _).alloc _)
 have hy0:Blk ((w.alloc (.cells #[.int .i64 v.kd,.int .i64 v.nm,.string ⟨v.tx.toArray⟩,.slice B v.ls.length d,.slice B' v.ms.length d'] 25)).alloc (.cells #[.int .i64 0,.int .i64 0,.string ⟨#[]⟩,.slice none 0 0,.slice none 0 0] 25)) (w.heap.size+1) #[.int .i64 0,.int .i64 0,.string ⟨#[]⟩,.slice none 0 0,.slice none 0 0] 25:=boxz (Blk.made (w.alloc _) _ _)
 have hf0:Fr w ((w.alloc (.cells #[.int .i64 v.kd,.int .i64 v.nm,.string ⟨v.tx.toArray⟩,.slice B v.ls.length d,.slice B' v.ms.length d'] 25)).alloc (.cells #[.int .i64 0,.int .i64 0,.string ⟨#[]⟩,.slice none 0 0,.slice none 0 0] 25)):=((Fr.refl w).alloc _).alloc _
 have HX2:Hid (w.heap.size≤w.heap.size+1∧w.heap.size<((w.alloc (.cells #[.int .i64 v.kd,.int .i64 v.nm,.string ⟨v.tx.toArray⟩,.slice B v.ls.length d,.slice B' v.ms.length d'] 25)).alloc (.cells #[.int .i64 0,.int .i64 0,.string ⟨#[]⟩,.slice none 0 0,.slice none 0 0] 25)).heap.size∧w.heap.size+1<((w.alloc (.cells #[.int .i64 v.kd,.int .i64 v.nm,.string ⟨v.tx.toArray⟩,.slice B v.ls.length d,.slice B' v.ms.length d'] 25)).alloc (.cells #[.int .i64 0,.int .i64 0,.string ⟨#[]⟩,.slice none 0 0,.slice none 0 0] 25)).heap.size):=Lib.hid ⟨by omega,hx0.lt,hy0.lt⟩
 generalize ((w.alloc (.cells #[.int .i64 v.kd,.int .i64 v.nm,.string ⟨v.tx.toArray⟩,.slice B v.ls.length d,.slice B' v.ms.length d'] 25)).alloc (.cells #[.int .i64 0,.int .i64 0,.string ⟨#[]⟩,.slice none 0 0,.slice none 0 0] 25))=W1 at hx0 hy0 hf0 HX2 ⊢
 generalize w.heap.size+1=X2 at hy0 HX2 ⊢
 obtain ⟨X1,hX1⟩:∃ X,w.heap.size=X:=⟨_,rfl⟩
 have HX1:=Lib.hid hX1
 rw [hX1] at hx0 ⊢
 clear hX1
 obtain ⟨⟨x0,x1,x2,x3,x4⟩,_⟩:=box5 hx0
 have HX0:=Lib.hid hx0
 have HY0:=Lib.hid hy0
 have HF0:=Lib.hid hf0
 clear hx0 hy0 hf0
 rcases hb with h1 | ⟨h1,h2⟩
 ·obtain ⟨⟨z0,z1,z2,z3,z4⟩,zf0,zf1,zf2,zf3,zf4⟩:=box5 HY0.out
  go_wp2_with fail
  refine bodyPost_ret (results_cs (by rfl) rfl _ X2 (by rfl) (by rfl) _ _ _ _ _ (set5 HY0.out)) rfl ?_
  show ReP w (Rf.resolve v l) _ _
  rw [HR.out]
  exact ⟨rfl,st5_fr HF0.out HX2.out.1 _ _ _ _ _⟩
 ·rw [h2] at HTW
  go_upto_region 2 with (go_at_call 35;refine (HTW.out _ HF0.out).mono ?_;rintro e w2 ⟨rfl,hf⟩;have HF1:=Lib.hid hf;clear hf)
  have hb2:=HY0.out.keep HF1.out
  have hf2:=HF0.out.trans HF1.out
  obtain ⟨⟨z0,z1,z2,z3,z4⟩,zf0,zf1,zf2,zf3,zf4⟩:=box5 hb2
  have HB2:=Lib.hid hb2
  have HF2:=Lib.hid hf2
  clear hb2 hf2 x0 x1 x2 x3 x4
  go_wp2_with fail
  refine bodyPost_ret (results_cs (by rfl) rfl _ X2 (by rfl) (by rfl) _ _ _ _ _ (set5 HB2.out)) rfl ?_
  show ReP w (Rf.resolve v l) _ _
  rw [HR.out]
  exact ⟨rfl,st5_fr HF2.out HX2.out.1 _ _ _ _ _⟩
theorem resolve_yes (v:JV) (B:Option Addr) (d:Nat) (B':Option Addr) (d':Nat) (l:List CallV) (A:Option Addr) (c:Nat) (w:World) (Z:Nat) (hZ:Z≤w.heap.size) (h:InV w (Lo Z) v (vA v B d B' d')) (hcz:CsZ w Z A l) (hl:l.length≤140737488355328) (hbv:JV.bulk v≤4194304) (hn:∀ q∈l,JV.bulk q.1.2≤1048576) (hM:MxL w) (h6:v.kd=6) (ht:Rf.twice v.ms=false):
  Calls Tryz.prog 14 #[.agg #[.int .i64 v.kd,.int .i64 v.nm,.string ⟨v.tx.toArray⟩,.slice B v.ls.length d,.slice B' v.ms.length d'],.slice A l.length c] w (ReP w (Rf.resolve v l)):=by
 have HRV:Hid (Rf.resolve v l=Rf.ful (Rf.resM l v.ms 0 0)):=Lib.hid (by unfold Rf.resolve;rw [if_pos ⟨h6,ht⟩];rfl)
 have hbe:=Rf.bulk_eq v
 have hml:=Rf.bigM_len v.ms
 have hml2:v.ms.length≤4194304:=by omega
 have hml3:(v.ms.length:Int)≤4194304:=by omega
 have HML:Hid (v.ms.length≤4194304):=Lib.hid hml2
 have hms:MsC w (Lo Z) B' v.ms:=h.msC'
 have HTW:Hid (∀ W,Fr w W→Calls Tryz.prog 35 #[.slice B' v.ms.length d'] W fun e w'=>e=.returned (.bool false)∧Fr W w'):=Lib.hid (fun W hW=>by rw [← ht];exact rtwice_is v.ms B' d' W ((h.keep hZ hW).lo (Nat.le_trans hZ hW.size)).msC' (by omega))
 have HCL:Hid (∀ W,Fr w W→Calls Tryz.prog 36 #[.slice B' v.ms.length d'] W fun e w'=>∃ v',e=.returned v'∧MsB w' Z W.heap.size v' v.ms∧Fr W w'):=Lib.hid (fun W hW=>clone_m_is v.ms B' d' W Z (Nat.le_trans hZ hW.size) (hms.keep hZ hW) (by omega))
 have HBV:Hid (JV.bulkM v.ms≤4194304):=Lib.hid (by omega)
 have HZ:=Lib.hid hZ
 have HCZ:=Lib.hid hcz
 have HL:=Lib.hid hl
 have HN:=Lib.hid hn
 have HMX:=Lib.hid hM
 have hl':(l.length:Int)≤140737488355328:=by omega
 have q6:(v.kd != 6)=false:=by rw [h6];rfl
 clear h hZ hcz hl hbv hn hM h6 ht hbe hml hms
 go_enter Tryz.func14,Tryz.ntmps14
 go_upto_region 1 with fail
 have hx0:Blk ((w.alloc (.cells #[.int .i64 v.kd,.int .i64 v.nm,.string ⟨v.tx.toArray⟩,.slice B v.ls.length d,.slice B' v.ms.length d'] 25)).alloc (.cells #[.int .i64 0,.int .i64 0,.string ⟨#[]⟩,.slice none 0 0,.slice none 0 0] 25)) w.heap.size #[.int .i64 v.kd,.int .i64 v.nm,.string ⟨v.tx.toArray⟩,.slice B v.ls.length d,.slice B' v.ms.length d'] 25:=(Blk.made w _ _).keep ((Fr.refl _).alloc _)
 have hy0:Blk ((w.alloc (.cells #[.int .i64 v.kd,.int .i64 v.nm,.string ⟨v.tx.toArray⟩,.slice B v.ls.length d,.slice B' v.ms.length d'] 25)).alloc (.cells #[.int .i64 0,.int .i64 0,.string ⟨#[]⟩,.slice none 0 0,.slice none 0 0] 25)) (w.heap.size+1) #[.int .i64 0,.int .i64 0,.string ⟨#[]⟩,.slice none 0 0,.slice none 0 0] 25:=boxz (Blk.made (w.alloc _) _ _)
 have hf0:Fr w ((w.alloc (.cells #[.int .i64 v.kd,.int .i64 v.nm,.string ⟨v.tx.toArray⟩,.slice B v.ls.length d,.slice B' v.ms.length d'] 25)).alloc (.cells #[.int .i64 0,.int .i64 0,.string ⟨#[]⟩,.slice none 0 0,.slice none 0 0] 25)):=((Fr.refl w).alloc _).alloc _
 have HX2:Hid (w.heap.size≤w.heap.size+1∧w.heap.size<((w.alloc (.cells #[.int .i64 v.kd,.int .i64 v.nm,.string ⟨v.tx.toArray⟩,.slice B v.ls.length d,.slice B' v.ms.length d'] 25)).alloc (.cells #[.int .i64 0,.int .i64 0,.string ⟨#[]⟩,.slice none 0 0,.slice none 0 0] 25)).heap.size∧w.heap.size+1<((w.alloc (.cells #[.int .i64 v.kd,.int .i64 v.nm,.string ⟨v.tx.toArray⟩,.slice B v.ls.length d,.slice B' v.ms.length d'] 25)).alloc (.cells #[.int .i64 0,.int .i64 0,.string ⟨#[]⟩,.slice none 0 0,.slice none 0 0] 25)).heap.size):=Lib.hid ⟨by omega,hx0.lt,hy0.lt⟩
 generalize ((w.alloc (.cells #[.int .i64 v.kd,.int .i64 v.nm,.string ⟨v.tx.toArray⟩,.slice B v.ls.length d,.slice B' v.ms.length d'] 25)).alloc (.cells #[.int .i64 0,.int .i64 0,.string ⟨#[]⟩,.slice none 0 0,.slice none 0 0] 25))=W1 at hx0 hy0 hf0 HX2 ⊢
 generalize w.heap.size+1=X2 at hy0 HX2 ⊢
 obtain ⟨X1,hX1⟩:∃ X,w.heap.size=X:=⟨_,rfl⟩
 have HX1:=Lib.hid hX1
 rw [hX1] at hx0 ⊢
 clear hX1
 obtain ⟨⟨x0,x1,x2,x3,x4⟩,_⟩:=box5 hx0
 have HX0:=Lib.hid hx0
 have HY0:=Lib.hid hy0
 have HF0:=Lib.hid hf0
 clear hx0 hy0 hf0
 go_upto_region 3 with (go_at_call 35;refine (HTW.out _ HF0.out).mono ?_;rintro e w2 ⟨rfl,hf⟩;have HF1:=Lib.hid hf;clear hf)
 obtain ⟨⟨y0,y1,y2,y3,y4⟩,_⟩:=box5 (HX0.out.keep HF1.out)
 clear x0 x1 x2 x3 x4
 go_upto_region 4 with (go_at_call 36;refine (HCL.out _ (HF0.out.trans HF1.out)).mono ?_;rintro e w3 ⟨v3,rfl,hv3,hf⟩;obtain ⟨D,g',rfl⟩:=hv3.is_slice;have HV3:=Lib.hid hv3;have HF3:=Lib.hid hf;clear hv3 hf)
 clear y0 y1 y2 y3 y4
 have hb6:Blk (w3.alloc (.cells #[.int .i64 6,.int .i64 0,.string ⟨#[]⟩,.slice none 0 0,.slice D v.ms.length g'] 25)) w3.heap.size #[.int .i64 6,.int .i64 0,.string ⟨#[]⟩,.slice none 0 0,.slice D v.ms.length g'] 25:=Blk.made w3 _ _
 have hf5:Fr w (w3.alloc (.cells #[.int .i64 6,.int .i64 0,.string ⟨#[]⟩,.slice none 0 0,.slice D v.ms.length g'] 25)):=(((HF0.out.trans HF1.out).trans HF3.out).alloc _)
 have hy5:Blk (w3.alloc (.cells #[.int .i64 6,.int .i64 0,.string ⟨#[]⟩,.slice none 0 0,.slice D v.ms.length g'] 25)) X2 #[.int .i64 0,.int .i64 0,.string ⟨#[]⟩,.slice none 0 0,.slice none 0 0] 25:=HY0.out.keep ((HF1.out.trans HF3.out).alloc _)
 have hv5:MsB (w3.alloc (.cells #[.int .i64 6,.int .i64 0,.string ⟨#[]⟩,.slice none 0 0,.slice D v.ms.length g'] 25)) Z w2.heap.size (.slice D v.ms.length g') v.ms:=HV3.out.keep ((Fr.refl w3).alloc _)
 have hs5:w3.heap.size<(w3.alloc (.cells #[.int .i64 6,.int .i64 0,.string ⟨#[]⟩,.slice none 0 0,.slice D v.ms.length g'] 25)).heap.size:=hb6.lt
 have hs2:=HF1.out.size
 have hs3:=HF3.out.size
 have hs0:=HF0.out.size
 obtain ⟨g,hgm,hgg⟩:∃ g,Hid (0<v.ms.length→D=some ⟨g,0,none⟩∧CqI (w3.alloc (.cells #[.int .i64 6,.int .i64 0,.string ⟨#[]⟩,.slice none 0 0,.slice D v.ms.length g'] 25)) g v.ms (fun _=>False) (Lo Z) 0)∧(w2.heap.size≤g∧g≤(w3.alloc (.cells #[.int .i64 6,.int .i64 0,.string ⟨#[]⟩,.slice none 0 0,.slice D v.ms.length g'] 25)).heap.size∧g≠w3.heap.size∧(0<v.ms.length→g<w3.heap.size)):=by
  by_cases h0:0<v.ms.length
  ·obtain ⟨g,hA,hK,hc⟩:=hv5.cq h0 (fun _=>False)
   obtain ⟨g2,hA2,_,hc2⟩:=HV3.out.cq h0 (fun _=>False)
   obtain ⟨cb,hcb,_⟩:=hc2.blk
   have hgl:=hcb.lt
   have he:g=g2:=by
    have:=hA.symm.trans hA2
    injection this with this
    injection this
   rw [← he] at hgl
   exact ⟨g,Lib.hid (fun _=>⟨hA,hc⟩),hK,by omega,by omega,fun _=>hgl⟩
  ·exact ⟨_,Lib.hid (fun h=>absurd h h0),by omega,Nat.le_refl _,by omega,fun h=>absurd h h0⟩
 generalize (w3.alloc (.cells #[.int .i64 6,.int .i64 0,.string ⟨#[]⟩,.slice none 0 0,.slice D v.ms.length g'] 25))=W5 at hb6 hf5 hy5 hv5 hs5 hgm hgg ⊢
 generalize w3.heap.size=X6 at hb6 hs5 hgg ⊢
 obtain ⟨hg1,hg2,hg3,hg4⟩:=hgg
 have HG:Hid (w.heap.size≤g∧g≤W5.heap.size∧X2≠g∧X6≠g):=Lib.hid (by have:=HX2.out;omega)
 have HGLT0:Hid (0<v.ms.length→g<W5.heap.size):=Lib.hid (fun h=>by have:=hg4 h;omega)
 have HGM:=hgm
 have HX6:=Lib.hid hb6
 have HF5:=Lib.hid hf5
 have HY5:=Lib.hid hy5
 have HZ5:Hid (Z≤W5.heap.size):=Lib.hid (Nat.le_trans HZ.out hf5.size)
 clear hf5 hy5 hv5 hs5 hg1 hg2 hg3 hg4 hs2 hs3 hs0 HV3 HF3 HF1 HTW HCL HX0 HY0
 obtain ⟨⟨z0,z1,z2,z3,z4⟩,_⟩:=box5 hb6
 clear hb6
 go_upto_region 6 with fail
 clear z0 z1 z2 z3 z4
 go_loopw [7,8,9,11,12,14,31] (fun a7 a8 a9 a11 a12 a14 j wr=>∃ (i pz bz:Nat) (cur:List (List UInt8 × JV)),i≤v.ms.length∧pz≤8192∧bz≤65536∧cur.length=v.ms.length∧a7=.int .i64 pz∧a8=.int .i64 bz∧j=.int .i64 i∧Hid (Rf.resM l v.ms 0 0=Rf.pre (cur.take i) (Rf.resM l (cur.drop i) pz bz))∧Hid (∀ k (h:k<cur.length),i≤k→cur[k]∈v.ms)∧Hid (FrX g W5 wr)∧Hid (0<v.ms.length→CqI wr g cur (Ne Z W5 wr) (Lo Z) i)) (fun _ _ _ _ _ _ j _=>v.ms.length - (intOf j).toNat)
 case atStart=>exact ⟨0,0,0,v.ms,by omega,by omega,by omega,rfl,rfl,rfl,rfl,Lib.hid (by rw [List.take_zero,List.drop_zero,Rf.pre_nil]),Lib.hid (fun k h _=>List.getElem_mem h),Lib.hid (FrX.refl g W5),Lib.hid (fun h=>(HGM.out h).2.more (fun _ h=>h.elim))⟩
 case round=>
  obtain ⟨i,pz,bz,cur,hi,hpz,hbz,hcl,rfl,rfl,rfl,hR,hM,hX,hC⟩:=hrel
  have hx6:=HX6.out.frx hX.out (HG.out.2.2.2)
  have hy2:=HY5.out.frx hX.out (HG.out.2.2.1)
  have hsz:=hX.out.size
  have HFW:Hid (Fr w wr):=Lib.hid (Fr.thenY HF5.out HG.out.1 HG.out.2.1 hX.out)
  have HFW':Hid (Z≤wr.heap.size):=Lib.hid (Nat.le_trans HZ.out HFW.out.size)
  have HW5R:Hid (W5.heap.size≤wr.heap.size):=Lib.hid hsz
  clear hsz
  by_cases hlt:i<v.ms.length
  ·have hlt':(i:Int)<(v.ms.length:Int):=by omega
   have hn0:0<v.ms.length:=by omega
   have hlc:i<cur.length:=by omega
   have hcq:=hC.out hn0
   have HGLT:Hid (g<W5.heap.size):=Lib.hid (HGLT0.out hn0)
   obtain ⟨rfl,_⟩:=HGM.out hn0
   obtain ⟨P,p',P',p'',hnl,hn00,hvc,hin⟩:=hcq.at_ i hlc
   rw [if_neg (Nat.lt_irrefl i)] at hin
   have hmem:=hM.out i hlc (Nat.le_refl _)
   have hbm:=Rf.bigM_mem hmem
   obtain ⟨nm,hnm⟩:∃ q,cur[i].1=q:=⟨_,rfl⟩
   obtain ⟨x,hxe⟩:∃ q,cur[i].2=q:=⟨_,rfl⟩
   have hce:cur[i]=(nm,x):=by rw [← hnm,← hxe]
   rw [hnm] at hnl hn00 hbm
   rw [hxe] at hvc hin hbm
   have hbx:JV.bulk x≤4194304:=by have:=HBV.out;omega
   have hbn:nm.length≤4194304:=by have:=HBV.out;omega
   obtain ⟨bn,bb,hbare⟩:∃ bn bb,Rf.bare nm=(bn,bb):=⟨_,_,rfl⟩
   have hbl:bn.length≤4194304:=by have:=Rf.bare_le nm;rw [hbare] at this;exact Nat.le_trans this hbn
   have hdr:Rf.resM l (cur.drop i) pz bz=Rf.resM l ((nm,x)::cur.drop (i+1)) pz bz:=by rw [List.drop_eq_getElem_cons hlc,hce]
   have htk:cur.take (i+1)=cur.take i++[(nm,x)]:=by rw [List.take_succ_eq_append_getElem hlc,hce]
   obtain ⟨cw,hcw,hczw⟩:=hcq.blk
   have HGB:Hid (∀ W,Fr wr W→Blk W g cw 39):=Lib.hid (fun W hW=>hcw.keep hW)
   have HSZ:Hid (i*6+6≤cw.size):=Lib.hid (by omega)
   have HCQ:Hid (∀ W,Fr wr W→CqI W g cur (Ne Z W5 W) (Lo Z) i):=Lib.hid (fun W hW=>(hcq.keep hW (fun b hb=>by rcases hb with hb | hb;exact Nat.lt_of_lt_of_le hb HFW'.out;exact hb.2) (fun b hb=>Nat.lt_of_lt_of_le hb HFW'.out)).more (fun b hb=>Or.imp id (fun h=>⟨h.1,Nat.lt_of_lt_of_le h.2 hW.size⟩) hb))
   have HBN:=Lib.hid hbare
   have HDR:=Lib.hid hdr
   have HTK:=Lib.hid htk
   have HIN:=Lib.hid hin
   have HBX:=Lib.hid hbx
   have HBL:=Lib.hid hbl
   have HCI:=Lib.hid hce
   have HY2R:=Lib.hid hy2
   have HX6R:=Lib.hid hx6
   have HHLC:=Lib.hid hlc
   have HHCL:=Lib.hid hcl
   obtain ⟨⟨z0,z1,z2,z3,z4⟩,_⟩:=box5 hx6
   clear hcq hnl hmem hbm hnm hxe hce hin hbx hbn hbare hbl hdr htk hcw hczw hy2 hx6
   have k1:wr.cell? ⟨g,i*6+1,none⟩=some (.int .i64 x.kd):=hvc.1
   have k2:wr.cell? ⟨g,i*6+2,none⟩=some (.int .i64 x.nm):=hvc.2.1
   have k3:wr.cell? ⟨g,i*6+3,none⟩=some (.string ⟨x.tx.toArray⟩):=hvc.2.2.1
   have k4:wr.cell? ⟨g,i*6+4,none⟩=some (.slice P x.ls.length p'):=hvc.2.2.2.1
   have k5:wr.cell? ⟨g,i*6+5,none⟩=some (.slice P' x.ms.length p''):=hvc.2.2.2.2
   go_upto_region 8 with fail
   have hb10:Blk (wr.alloc (.cells #[.string ⟨nm.toArray⟩,.int .i64 x.kd,.int .i64 x.nm,.string ⟨x.tx.toArray⟩,.slice P x.ls.length p',.slice P' x.ms.length p''] 39)) wr.heap.size #[.string ⟨nm.toArray⟩,.int .i64 x.kd,.int .i64 x.nm,.string ⟨x.tx.toArray⟩,.slice P x.ls.length p',.slice P' x.ms.length p''] 39:=Blk.made wr _ _
   have hf7:Fr wr (wr.alloc (.cells #[.string ⟨nm.toArray⟩,.int .i64 x.kd,.int .i64 x.nm,.string ⟨x.tx.toArray⟩,.slice P x.ls.length p',.slice P' x.ms.length p''] 39)):=(Fr.refl wr).alloc _
   generalize (wr.alloc (.cells #[.string ⟨nm.toArray⟩,.int .i64 x.kd,.int .i64 x.nm,.string ⟨x.tx.toArray⟩,.slice P x.ls.length p',.slice P' x.ms.length p''] 39))=W7 at hb10 hf7 ⊢
   generalize wr.heap.size=X10 at hb10 ⊢
   clear z0 z1 z2 z3 z4 hn00 hvc k1 k2 k3 k4 k5
   have HB10:=Lib.hid hb10
   have HF7:=Lib.hid hf7
   obtain ⟨m0,m1,m2,m3,m4,m5⟩:=box6c hb10
   clear hb10 hf7
   cases bb
   ·go_wp2_with (go_at_call 37;refine (cutp_at nm bn false _ HBN.out).mono ?_;rintro e w8 ⟨rfl,rfl⟩)
    have hcs:CqI W7 g cur (Ne Z W5 W7) (Lo Z) (i+1):=((HCQ.out _ HF7.out).skip (fun b hb=>.inl hb))
    exact ⟨⟨i+1,pz,bz,cur,by omega,hpz,hbz,HHCL.out,rfl,rfl,by go_num,Lib.hid (by rw [hR.out,HDR.out,Rf.resM_bare l _ _ _ _ (by show (Rf.bare nm).2=false;rw [HBN.out]),Rf.pre_pre,HTK.out]),Lib.hid (fun k hk hki=>hM.out k hk (by omega)),Lib.hid (hX.out.fr HF7.out),Lib.hid (fun _=>hcs)⟩,by simp [intOf];omega⟩
   ·obtain ⟨r,hr⟩:∃ r,Rf.lead x l=r:=⟨_,rfl⟩
    have hld:∀ W,Fr W7 W→Calls Tryz.prog 38 #[.agg #[.int .i64 x.kd,.int .i64 x.nm,.string ⟨x.tx.toArray⟩,.slice P x.ls.length p',.slice P' x.ms.length p''],.slice A l.length c] W (LeP Z W r):=fun W hW=>by
     rw [← hr]
     exact rlead_is x P p' P' p'' l A c W Z (Nat.le_trans HFW'.out (HF7.out.trans hW).size) (HIN.out.keep HFW'.out (HF7.out.trans hW)) (HCZ.out.keep HZ.out ((HFW.out.trans HF7.out).trans hW)) HL.out (fun q hq=>Nat.le_trans (Rf.nv_big _) (HN.out q hq)) (HMX.out.keep ((HFW.out.trans HF7.out).trans hW)) (fun sa sb sp h3=>by have:=Rf.three_len h3;have:=HBX.out;omega)
    have HRR:=Lib.hid hr
    cases r with
    | error n=>
     have HLD:Hid (∀ W,Fr W7 W→Calls Tryz.prog 38 #[.agg #[.int .i64 x.kd,.int .i64 x.nm,.string ⟨x.tx.toArray⟩,.slice P x.ls.length p',.slice P' x.ms.length p''],.slice A l.length c] W fun e w'=>e=.returned (.tuple #[.agg #[.int .i64 0,.int .i64 0,.string ⟨#[]⟩,.slice none 0 0,.slice none 0 0],.int .i64 n])∧Fr W w'):=Lib.hid (fun W hW=>hld W hW)
     have hne:n≠0:=Rf.lead_err HRR.out
     have HNE:=Lib.hid hne
     have hni:((n:Int) != 0)=true:=by rw [bne_iff_ne];omega
     have hni2:¬ (n:Int)=0:=by omega
     have HR:Hid (Rf.resolve v l=.error n):=Lib.hid (by rw [HRV.out,hR.out,HDR.out,Rf.resM_no l _ _ _ _ (by show (Rf.bare nm).2=true;rw [HBN.out]) HRR.out];rfl)
     clear hld hr hne
     go_upto_region 11 with (first | (go_at_call 38;refine (HLD.out _ (Fr.refl _)).mono ?_;rintro e w8 ⟨rfl,hf⟩;have HF8:=Lib.hid hf;clear hf) | (go_at_call 37;refine (cutp_at nm bn true _ HBN.out).mono ?_;rintro e w8 ⟨rfl,rfl⟩))
     have hb2:Blk (w8.alloc (.cells #[.int .i64 0,.int .i64 0,.string ⟨#[]⟩,.slice none 0 0,.slice none 0 0] 25)) X2 #[.int .i64 0,.int .i64 0,.string ⟨#[]⟩,.slice none 0 0,.slice none 0 0] 25:=HY2R.out.keep ((HF7.out.trans HF8.out).alloc _)
     have hf2:Fr w (w8.alloc (.cells #[.int .i64 0,.int .i64 0,.string ⟨#[]⟩,.slice none 0 0,.slice none 0 0] 25)):=((HFW.out.trans HF7.out).trans HF8.out).alloc _
     generalize (w8.alloc (.cells #[.int .i64 0,.int .i64 0,.string ⟨#[]⟩,.slice none 0 0,.slice none 0 0] 25))=W9 at hb2 hf2 ⊢
     generalize w8.heap.size=X13
     obtain ⟨⟨z0,z1,z2,z3,z4⟩,zf0,zf1,zf2,zf3,zf4⟩:=box5 hb2
     have HB2:=Lib.hid hb2
     have HF2:=Lib.hid hf2
     clear hb2 hf2 m0 m1 m2 m3 m4 m5
     go_wp2_with fail
     refine bodyPost_ret (results_cs (by rfl) rfl _ X2 (by rfl) (by rfl) _ _ _ _ _ (set5 HB2.out)) rfl ?_
     show ReP w (Rf.resolve v l) _ _
     rw [HR.out]
     exact ⟨rfl,st5_fr HF2.out HX2.out.1 _ _ _ _ _⟩
    | ok y=>
     have HLD:Hid (∀ W,Fr W7 W→Calls Tryz.prog 38 #[.agg #[.int .i64 x.kd,.int .i64 x.nm,.string ⟨x.tx.toArray⟩,.slice P x.ls.length p',.slice P' x.ms.length p''],.slice A l.length c] W fun e w'=>∃ (Q:Option Addr) (q:Nat) (Q':Option Addr) (q':Nat),e=.returned (.tuple #[.agg #[.int .i64 y.kd,.int .i64 y.nm,.string ⟨y.tx.toArray⟩,.slice Q y.ls.length q,.slice Q' y.ms.length q'],.int .i64 0])∧InV w' (Ne Z W w') y (vA y Q q Q' q')∧Fr W w'):=Lib.hid (fun W hW=>hld W hW)
     have hyb:JV.bulk y≤1048576:=Rf.lead_big HN.out HRR.out
     have hnv:=Rf.nv_big y
     have hsz:=Rf.size_big y
     have hdp:=Rf.deep_big y
     obtain ⟨cn,hcn⟩:∃ n,Rd.nv y=n:=⟨_,rfl⟩
     obtain ⟨cs,hcs⟩:∃ n,Rf.size y=n:=⟨_,rfl⟩
     obtain ⟨cd,hcd⟩:∃ n,Rf.deep y=n:=⟨_,rfl⟩
     have HCNS:=Lib.hid (show Rd.nv y=cn∧Rf.size y=cs∧Rf.deep y=cd from ⟨hcn,hcs,hcd⟩)
     have HYB:=Lib.hid hyb
     rw [hcn] at hnv
     rw [hcs] at hsz
     rw [hcd] at hdp
     have hcn2:cn≤1048576:=by omega
     have hcs2:cs≤1048576:=by omega
     have hcd2:cd≤1048576:=by omega
     clear hld hr hyb hnv hsz hdp hcn hcs hcd
     go_upto_region 11 with (first | (go_at_call 38;refine (HLD.out _ (Fr.refl _)).mono ?_;rintro e w8 ⟨Q,q,Q',q',rfl,hi8,hf⟩;have HF8:=Lib.hid hf;have HI8:=Lib.hid hi8;clear hf hi8) | (go_at_call 37;refine (cutp_at nm bn true _ HBN.out).mono ?_;rintro e w8 ⟨rfl,rfl⟩))
     have hb13:Blk (w8.alloc (.cells #[.int .i64 y.kd,.int .i64 y.nm,.string ⟨y.tx.toArray⟩,.slice Q y.ls.length q,.slice Q' y.ms.length q'] 25)) w8.heap.size #[.int .i64 y.kd,.int .i64 y.nm,.string ⟨y.tx.toArray⟩,.slice Q y.ls.length q,.slice Q' y.ms.length q'] 25:=Blk.made w8 _ _
     have hf9:Fr wr (w8.alloc (.cells #[.int .i64 y.kd,.int .i64 y.nm,.string ⟨y.tx.toArray⟩,.slice Q y.ls.length q,.slice Q' y.ms.length q'] 25)):=(HF7.out.trans HF8.out).alloc _
     have hi9:InV (w8.alloc (.cells #[.int .i64 y.kd,.int .i64 y.nm,.string ⟨y.tx.toArray⟩,.slice Q y.ls.length q,.slice Q' y.ms.length q'] 25)) (Ne Z W5 (w8.alloc (.cells #[.int .i64 y.kd,.int .i64 y.nm,.string ⟨y.tx.toArray⟩,.slice Q y.ls.length q,.slice Q' y.ms.length q'] 25))) y (vA y Q q Q' q'):=HI8.out.map (fun b hb=>Or.imp id (fun h=>⟨Nat.le_trans HW5R.out (Nat.le_trans HF7.out.size h.1),Nat.lt_of_lt_of_le h.2 ((Fr.refl w8).alloc _).size⟩) hb) (fun b o hb=>((Fr.refl w8).alloc _).cell (by rcases hb with h | h;exact Nat.lt_of_lt_of_le h (Nat.le_trans HFW'.out (HF7.out.trans HF8.out).size);exact h.2))
     generalize (w8.alloc (.cells #[.int .i64 y.kd,.int .i64 y.nm,.string ⟨y.tx.toArray⟩,.slice Q y.ls.length q,.slice Q' y.ms.length q'] 25))=W9 at hb13 hf9 hi9 ⊢
     generalize w8.heap.size=X13 at hb13 ⊢
     obtain ⟨⟨y0,y1,y2,y3,y4⟩,_⟩:=box5 hb13
     have HB13:=Lib.hid hb13
     have HF9:=Lib.hid hf9
     have HI9:=Lib.hid hi9
     clear hb13 hf9 hi9 m0 m1 m2 m3 m4 m5 HLD HI8 HF8
     have hik:∀ W,Fr W9 W→InV W (Lo W.heap.size) y (vA y Q q Q' q'):=fun W hW=>(HI9.out.map (fun _ h=>h) (fun b o hb=>hW.cell (by rcases hb with h | h;exact Nat.lt_of_lt_of_le h (Nat.le_trans HFW'.out HF9.out.size);exact h.2))).more (fun b hb=>by rcases hb with h | h;exact Nat.lt_of_lt_of_le h (Nat.le_trans HFW'.out (HF9.out.trans hW).size);exact Nat.lt_of_lt_of_le h.2 hW.size)
     have HCT:Hid (∀ W,Fr W9 W→Calls Tryz.prog 21 #[.agg #[.int .i64 y.kd,.int .i64 y.nm,.string ⟨y.tx.toArray⟩,.slice Q y.ls.length q,.slice Q' y.ms.length q']] W fun e w'=>e=.returned (.int .i64 (cn:Nat))∧Fr W w'):=Lib.hid (fun W hW=>by have h:=tcount_is y _ W (hik W hW) HYB.out;rw [HCNS.out.1] at h;exact h)
     have HBT:Hid (∀ W,Fr W9 W→Calls Tryz.prog 22 #[.agg #[.int .i64 y.kd,.int .i64 y.nm,.string ⟨y.tx.toArray⟩,.slice Q y.ls.length q,.slice Q' y.ms.length q']] W fun e w'=>e=.returned (.int .i64 (cs:Nat))∧Fr W w'):=Lib.hid (fun W hW=>by have h:=tbytes_is y _ W (hik W hW) HYB.out;rw [HCNS.out.2.1] at h;exact h)
     have HDT:Hid (∀ W,Fr W9 W→Calls Tryz.prog 20 #[.agg #[.int .i64 y.kd,.int .i64 y.nm,.string ⟨y.tx.toArray⟩,.slice Q y.ls.length q,.slice Q' y.ms.length q']] W fun e w'=>e=.returned (.int .i64 (cd:Nat))∧Fr W w'):=Lib.hid (fun W hW=>by have h:=tdepth_is y _ W (hik W hW) HYB.out;rw [HCNS.out.2.2] at h;exact h)
     clear hik
     go_upto_region 14 with (go_at_call 21;refine (HCT.out _ (Fr.refl _)).mono ?_;rintro e wa ⟨rfl,hf⟩;obtain ⟨⟨y0,y1,y2,y3,y4⟩,_⟩:=box5 (HB13.out.keep hf);have HGa:=Lib.hid hf;clear hf)
     obtain ⟨sp,hsp,hspz⟩:∃ n:Nat,pz+cn=n∧(pz:Int)+(cn:Int)=(n:Int):=⟨_,rfl,by omega⟩
     rw [hspz]
     clear hspz
     have HSP:=Lib.hid hsp
     have hsp2:sp≤2097152:=by omega
     clear hsp
     go_upto_region 15 with (go_at_call 22;refine (HBT.out _ HGa.out).mono ?_;rintro e wb ⟨rfl,hf⟩;obtain ⟨⟨y0,y1,y2,y3,y4⟩,_⟩:=box5 (HB13.out.keep (HGa.out.trans hf));have HGb:=Lib.hid (HGa.out.trans hf);clear hf)
     obtain ⟨sb,hsb,hsbz⟩:∃ n:Nat,bz+cs=n∧(bz:Int)+(cs:Int)=(n:Int):=⟨_,rfl,by omega⟩
     rw [hsbz]
     clear hsbz
     have HSB:=Lib.hid hsb
     have hsb2:sb≤2097152:=by omega
     clear hsb
     have hlong:((12<cd∨8192<sp∨65536<sb)∧(12<(cd:Int)∨((cd:Int)≤12∧8192<(sp:Int))∨((cd:Int)≤12∧(sp:Int)≤8192∧65536<(sb:Int))))∨(cd≤12∧sp≤8192∧sb≤65536):=by omega
     rcases hlong with ⟨hl0,hlong⟩ | ⟨hs1,hs2,hs3⟩
     ·have HR:Hid (Rf.resolve v l=.error 2):=Lib.hid (by rw [HRV.out,hR.out,HDR.out,Rf.resM_long l _ _ _ _ (by show (Rf.bare nm).2=true;rw [HBN.out]) HRR.out (by rw [HCNS.out.1,HCNS.out.2.1,HCNS.out.2.2,HSP.out,HSB.out];omega)];rfl)
      clear hl0
      rcases hlong with j1 | ⟨j1,j2⟩ | ⟨j1,j2,j3⟩
      all_goals
       go_upto_region 16 with (go_at_call 20;refine (HDT.out _ HGb.out).mono ?_;rintro e wd ⟨rfl,hf⟩;have HGd:=Lib.hid (HGb.out.trans hf);clear hf)
       have hb2:=HY2R.out.keep (HF9.out.trans HGd.out)
       have hf2:Fr w wd:=(HFW.out.trans HF9.out).trans HGd.out
       obtain ⟨⟨z0,z1,z2,z3,z4⟩,zf0,zf1,zf2,zf3,zf4⟩:=box5 hb2
       have HB2:=Lib.hid hb2
       have HF2:=Lib.hid hf2
       clear hb2 hf2
       go_wp2_with fail
       refine bodyPost_ret (results_cs (by rfl) rfl _ X2 (by rfl) (by rfl) _ _ _ _ _ (set5 HB2.out)) rfl ?_
       show ReP w (Rf.resolve v l) _ _
       rw [HR.out]
       exact ⟨rfl,st5_fr HF2.out HX2.out.1 _ _ _ _ _⟩
     ·have j1:(cd:Int)≤12:=by omega
      have j2:(sp:Int)≤8192:=by omega
      have j3:(sb:Int)≤65536:=by omega
      go_upto_region 17 with (go_at_call 20;refine (HDT.out _ HGb.out).mono ?_;rintro e wd ⟨rfl,hf⟩;obtain ⟨⟨y0,y1,y2,y3,y4⟩,_⟩:=box5 (HB13.out.keep (HGb.out.trans hf));have HGd:=Lib.hid (HGb.out.trans hf);clear hf)
      obtain ⟨⟨z0,z1,z2,z3,z4⟩,_⟩:=box5 (HX6R.out.keep (HF9.out.trans HGd.out))
      clear z0 z1 z2 z3
      have hk9:=HGB.out _ (HF9.out.trans HGd.out)
      have hz9:=HSZ.out
      have q0_:∃ u,wd.cell? ⟨g,i*6,none⟩=some u:=⟨_,(hk9.cell _).trans (Array.getElem?_eq_getElem (by omega))⟩
      have q1_:∃ u,wd.cell? ⟨g,i*6+1,none⟩=some u:=⟨_,(hk9.cell _).trans (Array.getElem?_eq_getElem (by omega))⟩
      have q2_:∃ u,wd.cell? ⟨g,i*6+2,none⟩=some u:=⟨_,(hk9.cell _).trans (Array.getElem?_eq_getElem (by omega))⟩
      have q3_:∃ u,wd.cell? ⟨g,i*6+3,none⟩=some u:=⟨_,(hk9.cell _).trans (Array.getElem?_eq_getElem (by omega))⟩
      have q4_:∃ u,wd.cell? ⟨g,i*6+4,none⟩=some u:=⟨_,(hk9.cell _).trans (Array.getElem?_eq_getElem (by omega))⟩
      have q5_:∃ u,wd.cell? ⟨g,i*6+5,none⟩=some u:=⟨_,(hk9.cell _).trans (Array.getElem?_eq_getElem (by omega))⟩
      obtain ⟨n0,hn0⟩:=q0_
      obtain ⟨n1,hn1⟩:=q1_
      obtain ⟨n2,hn2⟩:=q2_
      obtain ⟨n3,hn3⟩:=q3_
      obtain ⟨n4,hn4⟩:=q4_
      obtain ⟨n5,hn5⟩:=q5_
      have hf0:=hk9.free (i*6)
      have hf1:=hk9.free (i*6+1)
      have hf2:=hk9.free (i*6+2)
      have hf3:=hk9.free (i*6+3)
      have hf4:=hk9.free (i*6+4)
      have hf5:=hk9.free (i*6+5)
      clear hk9 hz9
      have HCQ9:=Lib.hid ((HCQ.out _ (HF9.out.trans HGd.out)).skip (fun b hb=>.inl hb))
      have HI12:Hid (InV wd (Ne Z W5 wd) y (vA y Q q Q' q')):=Lib.hid (HI9.out.map (fun b hb=>Or.imp id (fun h=>⟨h.1,Nat.lt_of_lt_of_le h.2 HGd.out.size⟩) hb) (fun b o hb=>HGd.out.cell (by rcases hb with h | h;exact Nat.lt_of_lt_of_le h (Nat.le_trans HFW'.out HF9.out.size);exact h.2)))
      have HFX:Hid (FrX g W5 wd):=Lib.hid (hX.out.fr (HF9.out.trans HGd.out))
      go_wp2_with fail
      have hset:=HCQ9.out.put2 HHLC.out (Nat.lt_succ_self i) (fun b hb e=>by subst e;rcases hb with h | h;exact absurd h (Nat.not_lt.2 (Nat.le_trans HZ.out HG.out.1));exact absurd HGLT.out (Nat.not_lt.2 h.1)) (fun b hb e=>by subst e;exact absurd hb (Nat.not_lt.2 (Nat.le_trans HZ.out HG.out.1))) (s:=bn) (Nat.le_trans HBL.out (by decide)) HI12.out
      have hfr:=st6q_frx wd g (i*6) (.string ⟨bn.toArray⟩) (.int .i64 y.kd) (.int .i64 y.nm) (.string ⟨y.tx.toArray⟩) (.slice Q y.ls.length q) (.slice Q' y.ms.length q')
      have hszz:=st6q_size wd g (i*6) (.string ⟨bn.toArray⟩) (.int .i64 y.kd) (.int .i64 y.nm) (.string ⟨y.tx.toArray⟩) (.slice Q y.ls.length q) (.slice Q' y.ms.length q')
      exact ⟨⟨i+1,sp,sb,cur.set i (bn,y),by omega,hs2,hs3,by rw [List.length_set];exact HHCL.out,rfl,rfl,by go_num,Lib.hid (by rw [hR.out,HDR.out,Rf.resM_yes l _ _ _ _ (by show (Rf.bare nm).2=true;rw [HBN.out]) HRR.out (by rw [HCNS.out.1,HCNS.out.2.1,HCNS.out.2.2,HSP.out,HSB.out];omega),HCNS.out.1,HCNS.out.2.1,HSP.out,HSB.out,Rf.pre_pre,Rf.take_set cur i HHLC.out,Rf.drop_set cur i];show Rf.pre (cur.take i++[((Rf.bare nm).1,y)]) _=_;rw [HBN.out]),Lib.hid (fun k hk hki=>by rw [List.length_set] at hk;rw [List.getElem_set_ne (by omega)];exact hM.out k hk (by omega)),Lib.hid (FrX.trans HFX.out hfr),Lib.hid (fun _=>hset.more (fun b hb=>Or.imp id (fun h=>⟨h.1,Nat.lt_of_lt_of_eq h.2 hszz.symm⟩) hb))⟩,by simp [intOf];omega⟩
  ·obtain rfl:i=v.ms.length:=by omega
   have HR:Hid (Rf.resolve v l=.ok (JV.mapV cur)):=Lib.hid (by
    rw [HRV.out,hR.out,List.drop_eq_nil_of_le (by omega),List.take_of_length_le (by omega)]
    show Rf.ful (Except.ok (cur++[]))=_
    rw [List.append_nil];rfl)
   obtain ⟨⟨z0,z1,z2,z3,z4⟩,_⟩:=box5 hx6
   obtain ⟨⟨s0,s1,s2,s3,s4⟩,sf0,sf1,sf2,sf3,sf4⟩:=box5 hy2
   have HY2R:=Lib.hid hy2
   have HCL:=Lib.hid hcl
   clear hx6 hy2
   go_wp2_with fail
   refine bodyPost_ret (results_cs (by rfl) rfl _ X2 (by rfl) (by rfl) _ _ _ _ _ (set5 HY2R.out)) rfl ?_
   have hfx:=st5_frx wr X2 (.int .i64 6) (.int .i64 0) (.string ⟨#[]⟩) (.slice none 0 0) (.slice D v.ms.length g')
   have hsx:(st5 wr X2 (.int .i64 6) (.int .i64 0) (.string ⟨#[]⟩) (.slice none 0 0) (.slice D v.ms.length g')).heap.size=wr.heap.size:=by simp [st5,World.setCell]
   have hfin:Fr w (st5 wr X2 (.int .i64 6) (.int .i64 0) (.string ⟨#[]⟩) (.slice none 0 0) (.slice D v.ms.length g')):=st5_fr HFW.out HX2.out.1 _ _ _ _ _
   have hcx:0<v.ms.length→D=some ⟨g,0,none⟩∧CqI (st5 wr X2 (.int .i64 6) (.int .i64 0) (.string ⟨#[]⟩) (.slice none 0 0) (.slice D v.ms.length g')) g cur (Ne Z W5 wr) (Lo Z) cur.length:=fun h0=>by
    refine ⟨(HGM.out h0).1,?_⟩
    have h:=hC.out h0
    rw [← HCL.out] at h
    exact h.frx hfx (Ne.symm HG.out.2.2.1) (fun b hb=>by rcases hb with hb | hb;exact Nat.lt_of_lt_of_le hb HFW'.out;exact hb.2) (fun b hb=>Nat.lt_of_lt_of_le hb HFW'.out) (fun b hb e=>by subst e;rcases hb with h | h;exact absurd h (Nat.not_lt.2 (Nat.le_trans HZ.out HX2.out.1));exact absurd HY5.out.lt (Nat.not_lt.2 h.1)) (fun b hb e=>by subst e;exact absurd hb (Nat.not_lt.2 (Nat.le_trans HZ.out HX2.out.1)))
   show ReP w (Rf.resolve v l) _ _
   rw [HR.out]
   refine ⟨D,g',?_,rfl,?_,?_,hfin⟩
   ·show Ending.returned (.tuple #[.agg #[_,_,_,_,.slice D v.ms.length g'],_])=.returned (.tuple #[.agg #[_,_,_,_,.slice D cur.length g'],_])
    rw [HCL.out];rfl
   ·have hms:MsC (st5 wr X2 (.int .i64 6) (.int .i64 0) (.string ⟨#[]⟩) (.slice none 0 0) (.slice D v.ms.length g')) (Lo (st5 wr X2 (.int .i64 6) (.int .i64 0) (.string ⟨#[]⟩) (.slice none 0 0) (.slice D v.ms.length g')).heap.size) D cur:=by
     by_cases h0:0<v.ms.length
     ·obtain ⟨hD,hc⟩:=hcx h0
      rw [hD] at hc ⊢
      refine hc.msC (S':=Lo _) ?_ (fun b hb=>?_)
      ·obtain ⟨cb,hcb,_⟩:=hc.blk
       exact hcb.lt
      ·show b<_
       rw [← hD,hsx]
       rcases hb with hb | hb
       ·exact Nat.lt_of_lt_of_le hb HFW'.out
       ·exact hb.2
     ·exact fun k hk=>absurd hk (by rw [HCL.out];omega)
    have hls:LsC (st5 wr X2 (.int .i64 6) (.int .i64 0) (.string ⟨#[]⟩) (.slice none 0 0) (.slice D v.ms.length g')) (Lo (st5 wr X2 (.int .i64 6) (.int .i64 0) (.string ⟨#[]⟩) (.slice none 0 0) (.slice D v.ms.length g')).heap.size) none []:=fun k hk=>absurd hk (by simp)
    exact InV.both (c:=0) (c':=g') hls hms (by simp) (by rw [HCL.out];have:=HML.out;omega) 6 0 [] (by decide) (by decide) (by decide) (by decide) (by simp)
   ·intro h0
    have h0:0<v.ms.length:=by rw [← HCL.out];exact h0
    obtain ⟨hD,hc⟩:=hcx h0
    obtain ⟨cb,hcb,hcz⟩:=hc.blk
    exact ⟨g,cb,hD,HG.out.1,hcb,hcz⟩
theorem resolve_is (v:JV) (B:Option Addr) (d:Nat) (B':Option Addr) (d':Nat) (l:List CallV) (A:Option Addr) (c:Nat) (w:World) (Z:Nat) (hZ:Z≤w.heap.size) (h:InV w (Lo Z) v (vA v B d B' d')) (hcz:CsZ w Z A l) (hl:l.length≤140737488355328) (hbv:JV.bulk v≤4194304) (hn:∀ q∈l,JV.bulk q.1.2≤1048576) (hM:MxL w):
  Calls Tryz.prog 14 #[.agg #[.int .i64 v.kd,.int .i64 v.nm,.string ⟨v.tx.toArray⟩,.slice B v.ls.length d,.slice B' v.ms.length d'],.slice A l.length c] w (ReP w (Rf.resolve v l)):=by
 by_cases hk:v.kd=6∧Rf.twice v.ms=false
 ·exact resolve_yes v B d B' d' l A c w Z hZ h hcz hl hbv hn hM hk.1 hk.2
 ·exact resolve_no v B d B' d' l A c w Z hZ h (by have:=Rf.bulk_eq v;have:=Rf.bigM_len v.ms;omega) hk
end Go.Proofs.YtdhakbghdcfncaaGreatDoor
