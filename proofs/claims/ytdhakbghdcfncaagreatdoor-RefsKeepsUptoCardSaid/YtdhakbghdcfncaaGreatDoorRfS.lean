/- RefsKeeps' walk. -/
import Derived.Test.YtdhakbghdcfncaaGreatDoorRfq
import Derived.Test.YtdhakbghdcfncaaGreatDoorEe
import Derived.Test.YtdhakbghdcfncaaGreatDoorCpa
namespace Go.Proofs.YtdhakbghdcfncaaGreatDoor
set_option maxRecDepth 100000
set_option maxHeartbeats 16000000
set_option linter.unusedVariables false
set_option linter.unusedSimpArgs false
open Go.RowKit

theorem refkeeps_law (v:JV) (B:Option Addr) (d:Nat) (B':Option Addr) (d':Nat) (l:List CallV) (A:Option Addr) (c:Nat) (w:World) (hv:InV w (Lo w.heap.size) v (vA v B d B' d')) (hbv:JV.bulk v≤1048576) (hcs:CsR w A l) (hbc:Pt.bulkC l≤1048576) (hT:LowTabs w) (hS:SpTab w) (hM:MxL w):
  Calls Tryz.prog 5 #[vA v B d B' d',.slice A l.length c] w fun e w'=>e=.returned (.bool true)∧Fr w w':=by
 obtain ⟨hl,hn⟩:=rfcalls hbc
 show Calls Tryz.prog 5 #[.agg #[.int .i64 v.kd,.int .i64 v.nm,.string ⟨v.tx.toArray⟩,.slice B v.ls.length d,.slice B' v.ms.length d'],.slice A l.length c] w _
 have HT:=Lib.hid hT
 have HS:=Lib.hid hS
 have HM:=Lib.hid hM
 have HFW:Hid (∀ W,Fr w W→Calls Tryz.prog 13 #[.agg #[.int .i64 v.kd,.int .i64 v.nm,.string ⟨v.tx.toArray⟩,.slice B v.ls.length d,.slice B' v.ms.length d'],.slice A l.length c] W fun e w'=>(∃ b:Bool,e=.returned (.bool b))∧Fr W w'):=Lib.hid (fun W hW=>few24_is v B d B' d' l A c W ((hv.keep (Nat.le_refl _) hW).lo hW.size) hbv (((hcs.z.keep (Nat.le_refl _) hW).lo hW.size)) hl hn)
 obtain ⟨ck,cq,hck⟩:∃ a b,JV.chk v 1 0=(a,b):=⟨_,_,rfl⟩
 have HKV:Hid (∀ W,Fr w W→InV W (Lo W.heap.size) v (vA v B d B' d')):=Lib.hid (fun W hW=>(hv.keep (Nat.le_refl _) hW).lo hW.size)
 have HCK:Hid (∀ W,Fr w W→Calls Tryz.prog 15 #[.agg #[.int .i64 v.kd,.int .i64 v.nm,.string ⟨v.tx.toArray⟩,.slice B v.ls.length d,.slice B' v.ms.length d']] W fun e w'=>e=.returned (.int .i64 ck)∧Fr W w'):=Lib.hid (fun W hW=>ccheck_is v B d B' d' W ck cq (HKV.out W hW) hck)
 have HCP:Hid (∀ W,Fr w W→Calls Tryz.prog 16 #[.agg #[.int .i64 v.kd,.int .i64 v.nm,.string ⟨v.tx.toArray⟩,.slice B v.ls.length d,.slice B' v.ms.length d']] W fun e w'=>(∃ (C:Option Addr) (f:Nat) (C':Option Addr) (f':Nat),e=.returned (.agg #[.int .i64 v.kd,.int .i64 v.nm,.string ⟨v.tx.toArray⟩,.slice C v.ls.length f,.slice C' v.ms.length f'])∧InV w' (Lo w'.heap.size) v (vA v C f C' f'))∧Fr W w'):=Lib.hid (fun W hW=>(copy_is v _ W (HKV.out W hW) (Nat.le_trans (Rf.nv_big v) hbv)).mono (by rintro e w' ⟨⟨C,f,C',f',rfl,hi⟩,hf⟩;exact ⟨⟨C,f,C',f',rfl,hi.more (fun b hb=>hb.2)⟩,hf⟩))
 have HRE:Hid (∀ W,Fr w W→Calls Tryz.prog 14 #[.agg #[.int .i64 v.kd,.int .i64 v.nm,.string ⟨v.tx.toArray⟩,.slice B v.ls.length d,.slice B' v.ms.length d'],.slice A l.length c] W (ReP W (Rf.resolve v l))):=Lib.hid (fun W hW=>resolve_is v B d B' d' l A c W W.heap.size (Nat.le_refl _) (HKV.out W hW) ((hcs.z.keep (Nat.le_refl _) hW).lo hW.size) (Nat.le_trans hl (by decide)) (Nat.le_trans hbv (by decide)) hn (hM.keep hW))
 have hcn:ck=0∨ck≠0:=by omega
 clear hv hbv hcs hbc hl hn hT hS hM hck
 go_enter Tryz.func5,Tryz.ntmps5
 go_upto_region 1 with fail
 have hx0:Blk (w.alloc (.cells #[.int .i64 v.kd,.int .i64 v.nm,.string ⟨v.tx.toArray⟩,.slice B v.ls.length d,.slice B' v.ms.length d'] 25)) w.heap.size #[.int .i64 v.kd,.int .i64 v.nm,.string ⟨v.tx.toArray⟩,.slice B v.ls.length d,.slice B' v.ms.length d'] 25:=Blk.made w _ _
 have hf0:Fr w (w.alloc (.cells #[.int .i64 v.kd,.int .i64 v.nm,.string ⟨v.tx.toArray⟩,.slice B v.ls.length d,.slice B' v.ms.length d'] 25)):=(Fr.refl w).alloc _
 generalize (w.alloc (.cells #[.int .i64 v.kd,.int .i64 v.nm,.string ⟨v.tx.toArray⟩,.slice B v.ls.length d,.slice B' v.ms.length d'] 25))=W0 at hx0 hf0 ⊢
 obtain ⟨X2,hX2⟩:∃ X,w.heap.size=X:=⟨_,rfl⟩
 have HX2:=Lib.hid hX2
 rw [hX2] at hx0 ⊢
 clear hX2
 obtain ⟨⟨x0,x1,x2,x3,x4⟩,_⟩:=box5 hx0
 have HX0:=Lib.hid hx0
 have HF0:=Lib.hid hf0
 clear hx0 hf0
 rcases hcn with rfl | hcn
 ·go_upto_region 3 with (first
   | (go_at_call 15;have hq:=HF1.out;refine (HCK.out _ (HF0.out.trans hq)).mono ?_;rintro e w2 ⟨rfl,hf⟩;clear y0 y1 y2 y3 y4;obtain ⟨⟨y0,y1,y2,y3,y4⟩,_⟩:=box5 (HX0.out.keep (hq.trans hf));have HF2:=Lib.hid (hq.trans hf);clear hf hq)
   | (go_at_call 13;have hq:=HFa.out;refine (HFW.out _ (HF0.out.trans hq)).mono ?_;rintro e w1 ⟨⟨b1,rfl⟩,hf⟩;clear y0 y1 y2 y3 y4;obtain ⟨⟨y0,y1,y2,y3,y4⟩,_⟩:=box5 (HX0.out.keep (hq.trans hf));have HF1:=Lib.hid (hq.trans hf);clear hf hq;cases b1)
   | (go_at_call 7;refine (awake24 _ (HT.out.keep HF0.out) (HS.out.keep HF0.out) (HM.out.keep HF0.out)).mono ?_;rintro e wa ⟨rfl,hf⟩;obtain ⟨⟨y0,y1,y2,y3,y4⟩,_⟩:=box5 (HX0.out.keep hf);have HFa:=Lib.hid hf;clear hf))
  ·go_wp2_with (go_at_call 7;have hq:=HF1.out;refine (awake24 _ (HT.out.keep (HF0.out.trans hq)) (HS.out.keep (HF0.out.trans hq)) (HM.out.keep (HF0.out.trans hq))).mono ?_;rintro e w9 ⟨rfl,hf⟩;have HF9:=Lib.hid ((HF0.out.trans hq).trans hf);clear hf hq)
   go_ret
   exact ⟨rfl,HF9.out⟩
  clear x0 x1 x2 x3 x4
  go_upto_region 4 with (go_at_call 16;refine (HCP.out _ (HF0.out.trans HF2.out)).mono ?_;rintro e w5 ⟨⟨C,f,C',f',rfl,hi⟩,hf⟩;have HI:=Lib.hid hi;have HF3:=Lib.hid (HF2.out.trans hf);clear hi hf)
  clear y0 y1 y2 y3 y4
  have hb5:Blk (w5.alloc (.cells #[.int .i64 v.kd,.int .i64 v.nm,.string ⟨v.tx.toArray⟩,.slice C v.ls.length f,.slice C' v.ms.length f'] 25)) w5.heap.size #[.int .i64 v.kd,.int .i64 v.nm,.string ⟨v.tx.toArray⟩,.slice C v.ls.length f,.slice C' v.ms.length f'] 25:=Blk.made w5 _ _
  have hf5:Fr W0 (w5.alloc (.cells #[.int .i64 v.kd,.int .i64 v.nm,.string ⟨v.tx.toArray⟩,.slice C v.ls.length f,.slice C' v.ms.length f'] 25)):=HF3.out.alloc _
  have hi5:InV (w5.alloc (.cells #[.int .i64 v.kd,.int .i64 v.nm,.string ⟨v.tx.toArray⟩,.slice C v.ls.length f,.slice C' v.ms.length f'] 25)) (Lo (w5.alloc (.cells #[.int .i64 v.kd,.int .i64 v.nm,.string ⟨v.tx.toArray⟩,.slice C v.ls.length f,.slice C' v.ms.length f'] 25)).heap.size) v (vA v C f C' f'):=(HI.out.keep (Nat.le_refl _) ((Fr.refl w5).alloc _)).lo ((Fr.refl w5).alloc _).size
  generalize (w5.alloc (.cells #[.int .i64 v.kd,.int .i64 v.nm,.string ⟨v.tx.toArray⟩,.slice C v.ls.length f,.slice C' v.ms.length f'] 25))=W5 at hb5 hf5 hi5 ⊢
  generalize w5.heap.size=X5 at hb5 ⊢
  have HB5:=Lib.hid hb5
  have HF05:=Lib.hid hf5
  have HRS:Hid (∀ W,Fr W5 W→Calls Tryz.prog 14 #[.agg #[.int .i64 v.kd,.int .i64 v.nm,.string ⟨v.tx.toArray⟩,.slice B v.ls.length d,.slice B' v.ms.length d'],.slice A l.length c] W (ReP W (Rf.resolve v l))):=Lib.hid (fun W hW=>HRE.out W ((HF0.out.trans HF05.out).trans hW))
  have HSM:Hid (∀ W,Fr W5 W→Calls Tryz.prog 12 #[.agg #[.int .i64 v.kd,.int .i64 v.nm,.string ⟨v.tx.toArray⟩,.slice B v.ls.length d,.slice B' v.ms.length d'],.agg #[.int .i64 v.kd,.int .i64 v.nm,.string ⟨v.tx.toArray⟩,.slice C v.ls.length f,.slice C' v.ms.length f']] W fun e w'=>e=.returned (.bool true)∧Fr W w'):=Lib.hid (fun W hW=>by
   refine ((same_is v v _ _).call true (by simp) ?sx1 ?sx2 (HKV.out W ((HF0.out.trans HF05.out).trans hW)) ((hi5.keep (Nat.le_refl _) hW).lo hW.size)).mono ?_
   ·rfl
   ·rfl
   ·exact fun e w' h=>h)
  obtain ⟨⟨x0,x1,x2,x3,x4⟩,_⟩:=box5 (HX0.out.keep HF05.out)
  clear hb5 hf5 hi5 HI HF3 HF2 HF1 HFa HRE HCP HCK
  obtain ⟨r,hr⟩:∃ r,Rf.resolve v l=r:=⟨_,rfl⟩
  rw [hr] at HRS
  clear hr
  cases r with
  | error n=>
   have HRS2:Hid (∀ W,Fr W5 W→Calls Tryz.prog 14 #[.agg #[.int .i64 v.kd,.int .i64 v.nm,.string ⟨v.tx.toArray⟩,.slice B v.ls.length d,.slice B' v.ms.length d'],.slice A l.length c] W fun e w'=>e=.returned (.tuple #[.agg #[.int .i64 0,.int .i64 0,.string ⟨#[]⟩,.slice none 0 0,.slice none 0 0],.int .i64 n])∧Fr W w'):=HRS
   go_upto_region 5 with (go_at_call 14;refine (HRS2.out _ (Fr.refl _)).mono ?_;rintro e w6 ⟨rfl,hf⟩;have HG6:=Lib.hid hf;clear hf)
   clear x0 x1 x2 x3 x4
   have hb6:Blk (w6.alloc (.cells #[.int .i64 0,.int .i64 0,.string ⟨#[]⟩,.slice none 0 0,.slice none 0 0] 25)) w6.heap.size #[.int .i64 0,.int .i64 0,.string ⟨#[]⟩,.slice none 0 0,.slice none 0 0] 25:=Blk.made w6 _ _
   have hf6:Fr W5 (w6.alloc (.cells #[.int .i64 0,.int .i64 0,.string ⟨#[]⟩,.slice none 0 0,.slice none 0 0] 25)):=HG6.out.alloc _
   generalize (w6.alloc (.cells #[.int .i64 0,.int .i64 0,.string ⟨#[]⟩,.slice none 0 0,.slice none 0 0] 25))=W6 at hb6 hf6 ⊢
   generalize w6.heap.size=X6 at hb6 ⊢
   have HB6:=Lib.hid hb6
   have HF6:=Lib.hid hf6
   clear hb6 hf6 HG6
   go_upto_region 6 with fail
   go_loopw [8] (fun j wr=>j=.int .i64 0∧Hid (Fr W6 wr)) (fun _ _=>0)
   case atStart=>exact ⟨rfl,Lib.hid (Fr.refl _)⟩
   case round=>
    obtain ⟨rfl,hF⟩:=hrel
    obtain ⟨⟨p0,p1,p2,p3,p4⟩,_⟩:=box5 (HB6.out.keep hF.out)
    have HE:Hid (Fr W5 wr):=Lib.hid (HF6.out.trans hF.out)
    obtain ⟨⟨x0,x1,x2,x3,x4⟩,_⟩:=box5 (HX0.out.keep (HF05.out.trans HE.out))
    obtain ⟨⟨y0,y1,y2,y3,y4⟩,_⟩:=box5 (HB5.out.keep HE.out)
    go_wp2_with (go_at_call 12;refine (HSM.out _ HE.out).mono ?_;rintro e w9 ⟨rfl,hf⟩;have HF9:=Lib.hid (((HF0.out.trans HF05.out).trans HE.out).trans hf);clear hf)
    go_ret
    exact ⟨rfl,HF9.out⟩
  | ok y=>
   obtain ⟨N,hN⟩:∃ N,y.ms.length=N:=⟨_,rfl⟩
   have HRS2:Hid (∀ W,Fr W5 W→Calls Tryz.prog 14 #[.agg #[.int .i64 v.kd,.int .i64 v.nm,.string ⟨v.tx.toArray⟩,.slice B v.ls.length d,.slice B' v.ms.length d'],.slice A l.length c] W fun e w'=>∃ (D:Option Addr) (g':Nat),e=.returned (.tuple #[.agg #[.int .i64 6,.int .i64 0,.string ⟨#[]⟩,.slice none 0 0,.slice D N g'],.int .i64 0])∧N≤140737488355328∧(0<N → ∃ b cur,D=some ⟨b,0,none⟩∧W.heap.size≤b∧Blk w' b cur 39∧N*6≤cur.size)∧Fr W w'):=Lib.hid (fun W hW=>(HRS.out W hW).mono (by
    rintro e w' ⟨D,g',rfl,hy,hi,hbk,hf⟩
    rw [hN] at hbk hi ⊢
    exact ⟨D,g',rfl,by have:=hi.facts.2.2.2.2;rw [← hN];exact this,hbk,hf⟩))
   clear HRS hN
   go_upto_region 5 with (go_at_call 14;refine (HRS2.out _ (Fr.refl _)).mono ?_;rintro e w6 ⟨D,g',rfl,hN6,hbk,hf⟩;have HBK:=Lib.hid hbk;have HG6:=Lib.hid hf;clear hf hbk)
   clear x0 x1 x2 x3 x4
   by_cases hN0:0<N
   ·obtain ⟨b,cur0,rfl,hb5,hcur,hcz⟩:=HBK.out hN0
    have hb6:Blk (w6.alloc (.cells #[.int .i64 6,.int .i64 0,.string ⟨#[]⟩,.slice none 0 0,(.slice (some ⟨b,0,none⟩) N g')] 25)) w6.heap.size #[.int .i64 6,.int .i64 0,.string ⟨#[]⟩,.slice none 0 0,(.slice (some ⟨b,0,none⟩) N g')] 25:=Blk.made w6 _ _
    have hf6:Fr W5 (w6.alloc (.cells #[.int .i64 6,.int .i64 0,.string ⟨#[]⟩,.slice none 0 0,(.slice (some ⟨b,0,none⟩) N g')] 25)):=HG6.out.alloc _
    have hc6:Blk (w6.alloc (.cells #[.int .i64 6,.int .i64 0,.string ⟨#[]⟩,.slice none 0 0,(.slice (some ⟨b,0,none⟩) N g')] 25)) b cur0 39:=hcur.keep ((Fr.refl w6).alloc _)
    have hne:b≠w6.heap.size:=Nat.ne_of_lt hcur.lt
    generalize (w6.alloc (.cells #[.int .i64 6,.int .i64 0,.string ⟨#[]⟩,.slice none 0 0,(.slice (some ⟨b,0,none⟩) N g')] 25))=W6 at hb6 hf6 hc6 ⊢
    generalize w6.heap.size=X6 at hb6 hne ⊢
    have HB6:=Lib.hid hb6
    have HF6:=Lib.hid hf6
    have HNE:=Lib.hid hne
    have HC6:Hid (∃ cur,Blk W6 b cur 39∧N*6≤cur.size):=Lib.hid ⟨cur0,hc6,hcz⟩
    have HB5L:=Lib.hid hb5
    clear hb6 hf6 hc6 hne HG6 hcur hcz hb5
    have hN':(N:Int)≤140737488355328:=by omega
    go_upto_region 6 with fail
    go_loopw [8] (fun j wr=>∃ i:Nat,i≤N∧j=.int .i64 i∧Hid (Fr W5 wr)∧Hid (Blk wr X6 #[.int .i64 6,.int .i64 0,.string ⟨#[]⟩,.slice none 0 0,(.slice (some ⟨b,0,none⟩) N g')] 25)∧Hid (∃ cur,Blk wr b cur 39∧N*6≤cur.size)) (fun j _=>N - (intOf j).toNat)
    case atStart=>exact ⟨0,by omega,rfl,HF6,HB6,HC6⟩
    case round=>
     obtain ⟨i,hi,rfl,hF,hX,hC⟩:=hrel
     obtain ⟨⟨p0,p1,p2,p3,p4⟩,_⟩:=box5 hX.out
     by_cases hlt:i<N
     ·have hlt':(i:Int)<(N:Int):=by omega
      have h0i:(0:Int)≤(i:Int):=by omega
      obtain ⟨cur,hcb,hcz⟩:=hC.out
      have e0:∃ u,wr.cell? ⟨b,i*6,none⟩=some u:=⟨_,(hcb.cell _).trans (Array.getElem?_eq_getElem (by omega))⟩
      obtain ⟨m0,hm0⟩:=e0
      have hf0:=hcb.free (i*6)
      have HCB:=Lib.hid hcb
      have HCZ:=Lib.hid hcz
      clear hcb hcz
      go_wp2_with fail
      exact ⟨⟨i+1,by omega,by go_num,Lib.hid (hF.out.setCell (p:=⟨b,i*6,none⟩) HB5L.out (.string ⟨#[115,112,111,105,108,116]⟩)),Lib.hid (hX.out.other (p:=⟨b,i*6,none⟩) HNE.out (.string ⟨#[115,112,111,105,108,116]⟩)),Lib.hid ⟨_,HCB.out.set (i*6) (.string ⟨#[115,112,111,105,108,116]⟩),by simp;exact HCZ.out⟩⟩,by simp [intOf];omega⟩
     ·obtain rfl:i=N:=by omega
      have HE:=hF
      obtain ⟨⟨x0,x1,x2,x3,x4⟩,_⟩:=box5 (HX0.out.keep (HF05.out.trans HE.out))
      obtain ⟨⟨y0,y1,y2,y3,y4⟩,_⟩:=box5 (HB5.out.keep HE.out)
      go_wp2_with (go_at_call 12;refine (HSM.out _ HE.out).mono ?_;rintro e w9 ⟨rfl,hf⟩;have HF9:=Lib.hid (((HF0.out.trans HF05.out).trans HE.out).trans hf);clear hf)
      go_ret
      exact ⟨rfl,HF9.out⟩
   ·obtain rfl:N=0:=by omega
    have hb6:Blk (w6.alloc (.cells #[.int .i64 6,.int .i64 0,.string ⟨#[]⟩,.slice none 0 0,(.slice D 0 g')] 25)) w6.heap.size #[.int .i64 6,.int .i64 0,.string ⟨#[]⟩,.slice none 0 0,(.slice D 0 g')] 25:=Blk.made w6 _ _
    have hf6:Fr W5 (w6.alloc (.cells #[.int .i64 6,.int .i64 0,.string ⟨#[]⟩,.slice none 0 0,(.slice D 0 g')] 25)):=HG6.out.alloc _
    generalize (w6.alloc (.cells #[.int .i64 6,.int .i64 0,.string ⟨#[]⟩,.slice none 0 0,(.slice D 0 g')] 25))=W6 at hb6 hf6 ⊢
    generalize w6.heap.size=X6 at hb6 ⊢
    have HB6:=Lib.hid hb6
    have HF6:=Lib.hid hf6
    clear hb6 hf6 HG6 hN0
    go_upto_region 6 with fail
    go_loopw [8] (fun j wr=>j=.int .i64 0∧Hid (Fr W6 wr)) (fun _ _=>0)
    case atStart=>exact ⟨rfl,Lib.hid (Fr.refl _)⟩
    case round=>
     obtain ⟨rfl,hF⟩:=hrel
     obtain ⟨⟨p0,p1,p2,p3,p4⟩,_⟩:=box5 (HB6.out.keep hF.out)
     have HE:Hid (Fr W5 wr):=Lib.hid (HF6.out.trans hF.out)
     obtain ⟨⟨x0,x1,x2,x3,x4⟩,_⟩:=box5 (HX0.out.keep (HF05.out.trans HE.out))
     obtain ⟨⟨y0,y1,y2,y3,y4⟩,_⟩:=box5 (HB5.out.keep HE.out)
     go_wp2_with (go_at_call 12;refine (HSM.out _ HE.out).mono ?_;rintro e w9 ⟨rfl,hf⟩;have HF9:=Lib.hid (((HF0.out.trans HF05.out).trans HE.out).trans hf);clear hf)
     go_ret
     exact ⟨rfl,HF9.out⟩
 ·have e1:((ck:Int) != 0)=true:=by rw [bne_iff_ne];omega
  have e2:¬ (ck:Int)=0:=by omega
  clear hcn
  go_wp2_with (first
   | (go_at_call 7;have hq:=HF2.out;refine (awake24 _ (HT.out.keep (HF0.out.trans hq)) (HS.out.keep (HF0.out.trans hq)) (HM.out.keep (HF0.out.trans hq))).mono ?_;rintro e w9 ⟨rfl,hf⟩;have HF9:=Lib.hid ((HF0.out.trans hq).trans hf);clear hf hq)
   | (go_at_call 15;have hq:=HF1.out;refine (HCK.out _ (HF0.out.trans hq)).mono ?_;rintro e w2 ⟨rfl,hf⟩;clear y0 y1 y2 y3 y4;obtain ⟨⟨y0,y1,y2,y3,y4⟩,_⟩:=box5 (HX0.out.keep (hq.trans hf));have HF2:=Lib.hid (hq.trans hf);clear hf hq)
   | (go_at_call 7;have hq:=HF1.out;refine (awake24 _ (HT.out.keep (HF0.out.trans hq)) (HS.out.keep (HF0.out.trans hq)) (HM.out.keep (HF0.out.trans hq))).mono ?_;rintro e w9 ⟨rfl,hf⟩;have HF9:=Lib.hid ((HF0.out.trans hq).trans hf);clear hf hq)
   | (go_at_call 13;have hq:=HFa.out;refine (HFW.out _ (HF0.out.trans hq)).mono ?_;rintro e w1 ⟨⟨b1,rfl⟩,hf⟩;clear y0 y1 y2 y3 y4;obtain ⟨⟨y0,y1,y2,y3,y4⟩,_⟩:=box5 (HX0.out.keep (hq.trans hf));have HF1:=Lib.hid (hq.trans hf);clear hf hq;cases b1)
   | (go_at_call 7;refine (awake24 _ (HT.out.keep HF0.out) (HS.out.keep HF0.out) (HM.out.keep HF0.out)).mono ?_;rintro e wa ⟨rfl,hf⟩;obtain ⟨⟨y0,y1,y2,y3,y4⟩,_⟩:=box5 (HX0.out.keep hf);have HFa:=Lib.hid hf;clear hf))
  all_goals (go_ret;exact ⟨rfl,HF9.out⟩)
end Go.Proofs.YtdhakbghdcfncaaGreatDoor
