/- RefsResolve's walk. -/
import Derived.Test.YtdhakbghdcfncaaGreatDoorRfYp
import Derived.Test.YtdhakbghdcfncaaGreatDoorRfS
import Derived.Deep.QuietTactic
import Derived.BigQuiet
namespace Go.Proofs.YtdhakbghdcfncaaGreatDoor
set_option maxRecDepth 100000
set_option maxHeartbeats 16000000
set_option linter.unusedVariables false
set_option linter.unusedSimpArgs false
open Go.RowKit

theorem Rf.bulkM_app:∀ a b:List (List UInt8 × JV),JV.bulkM (a++b)=JV.bulkM a+JV.bulkM b
 | [],b=>by show JV.bulkM b=0+_;omega
 | x::a,b=>by rw [List.cons_append,JV.bulkM_cons,JV.bulkM_cons,Rf.bulkM_app a b];omega
theorem refV_in (ia ib pt:List UInt8) (PB:ByteArray) (hp:(⟨pt.toArray⟩:ByteArray)=PB) {W:World} {XS:Nat} (h1:ia.length≤140737488355328) (h2:ib.length≤140737488355328) (h3:pt.length≤140737488355328)
  (h:Blk W XS #[.string ⟨#[114,101,115,117,108,116,79,102]⟩,.int .i64 4,.int .i64 0,.string ⟨ia.toArray⟩,.slice none 0 0,.slice none 0 0,.string ⟨#[110,97,109,101]⟩,.int .i64 4,.int .i64 0,.string ⟨ib.toArray⟩,.slice none 0 0,.slice none 0 0,.string ⟨#[112,97,116,104]⟩,.int .i64 4,.int .i64 0,.string PB,.slice none 0 0,.slice none 0 0] 39):InV W (Lo W.heap.size) (Rf.refV ia ib pt) (.agg #[.int .i64 6,.int .i64 0,.string ⟨#[]⟩,.slice none 0 0,.slice (some ⟨XS,0,none⟩) 3 3]):=by
 subst hp
 have ht:∀ s:List UInt8,s.length≤140737488355328→InV W (Lo W.heap.size) (JV.textV s) (vA (JV.textV s) none 0 none 0):=fun s hs=>InV.both (A:=none) (c:=0) (A':=none) (c':=0) (fun i h=>absurd h (by simp)) (fun i h=>absurd h (by simp)) (by simp) (by simp) 4 0 s (by decide) (by decide) (by decide) (by decide) hs
 have hms:MsC W (Lo W.heap.size) (some ⟨XS,0,none⟩) [(Rf.nOf,JV.textV ia),(Rf.nName,JV.textV ib),(Rf.nPath,JV.textV pt)]:=fun i hi=>by
  rcases (by simp at hi;omega:i=0∨i=1∨i=2) with rfl | rfl | rfl
  ·exact ⟨XS,0,none,0,none,0,rfl,h.lt,(show Rf.nOf.length≤_ by decide),h.cell 0,⟨h.cell 1,h.cell 2,h.cell 3,h.cell 4,h.cell 5⟩,ht ia h1⟩
  ·exact ⟨XS,0,none,0,none,0,rfl,h.lt,(show Rf.nName.length≤_ by decide),h.cell 6,⟨h.cell 7,h.cell 8,h.cell 9,h.cell 10,h.cell 11⟩,ht ib h2⟩
  ·exact ⟨XS,0,none,0,none,0,rfl,h.lt,(show Rf.nPath.length≤_ by decide),h.cell 12,⟨h.cell 13,h.cell 14,h.cell 15,h.cell 16,h.cell 17⟩,ht pt h3⟩
 exact InV.both (c:=0) (c':=3) (A:=none) (fun i h=>absurd h (by simp)) hms (by simp) (by simp) 6 0 [] (by decide) (by decide) (by decide) (by decide) (by simp)
theorem CsZ.take {w:World} {Z:Nat} {A:Option Addr} {l:List CallV} (h:CsZ w Z A l) (j:Nat):CsZ w Z A (l.take j):=fun i hi=>by
 have hi2:i<l.length:=by rw [List.length_take] at hi;omega
 have h2:=h i hi2
 simpa only [List.getElem_take] using h2
theorem text24_is (S:ByteArray) (w:World):Calls Tryz.prog 17 #[.string S] w fun e w'=>e=.returned (.agg #[.int .i64 4,.int .i64 0,.string S,.slice none 0 0,.slice none 0 0])∧Fr w w':=by
 go_enter Tryz.func17,Tryz.ntmps17
 go_wp2_with fail
 refine bodyPost_ret (results_cv (by rfl) rfl _ w.heap.size (by rfl) _ _ _ _ _ (Blk.made w _ _)) rfl ?_
 exact ⟨rfl,(Fr.refl w).alloc _⟩
theorem refres_bad (v:JV) (B:Option Addr) (d:Nat) (B':Option Addr) (d':Nat) (l:List CallV) (A:Option Addr) (c:Nat) (n:Nat) (PB NB:ByteArray) (w:World) (hv:InV w (Lo w.heap.size) v (vA v B d B' d')) (hbv:JV.bulk v≤1048576) (hcs:CsR w A l) (hl:l.length≤1048576) (hn:∀ q∈l,JV.bulk q.1.2≤1048576) (hT:LowTabs w) (hS:SpTab w) (hM:MxL w) (ck cq:Nat) (hck:JV.chk v 1 0=(ck,cq)) (hbad:ck≠0∨(ck=0∧100<PB.size)∨(ck=0∧PB.size≤100∧l.length=0)):
  Calls Tryz.prog 6 #[.agg #[.int .i64 v.kd,.int .i64 v.nm,.string ⟨v.tx.toArray⟩,.slice B v.ls.length d,.slice B' v.ms.length d'],.slice A l.length c,.int .u8 (n:Nat),.string PB,.string NB] w fun e w'=>e=.returned (.bool true)∧Fr w w':=by
 have HT:=Lib.hid hT
 have HS:=Lib.hid hS
 have HM:=Lib.hid hM
 have HFW:Hid (∀ W,Fr w W→Calls Tryz.prog 13 #[.agg #[.int .i64 v.kd,.int .i64 v.nm,.string ⟨v.tx.toArray⟩,.slice B v.ls.length d,.slice B' v.ms.length d'],.slice A l.length c] W fun e w'=>(∃ b:Bool,e=.returned (.bool b))∧Fr W w'):=Lib.hid (fun W hW=>few24_is v B d B' d' l A c W ((hv.keep (Nat.le_refl _) hW).lo hW.size) hbv (((hcs.z.keep (Nat.le_refl _) hW).lo hW.size)) hl hn)
 have HKV:Hid (∀ W,Fr w W→InV W (Lo W.heap.size) v (vA v B d B' d')):=Lib.hid (fun W hW=>(hv.keep (Nat.le_refl _) hW).lo hW.size)
 have HCK:Hid (∀ W,Fr w W→Calls Tryz.prog 15 #[.agg #[.int .i64 v.kd,.int .i64 v.nm,.string ⟨v.tx.toArray⟩,.slice B v.ls.length d,.slice B' v.ms.length d']] W fun e w'=>e=.returned (.int .i64 ck)∧Fr W w'):=Lib.hid (fun W hW=>ccheck_is v B d B' d' W ck cq (HKV.out W hW) hck)
 clear hv hbv hcs hn hT hS hM hck
 go_enter Tryz.func6,Tryz.ntmps6
 go_upto_region 1 with fail
 have hx0:Blk (w.alloc (.cells #[.int .i64 v.kd,.int .i64 v.nm,.string ⟨v.tx.toArray⟩,.slice B v.ls.length d,.slice B' v.ms.length d'] 25)) w.heap.size #[.int .i64 v.kd,.int .i64 v.nm,.string ⟨v.tx.toArray⟩,.slice B v.ls.length d,.slice B' v.ms.length d'] 25:=Blk.made w _ _
 have hf0:Fr w (w.alloc (.cells #[.int .i64 v.kd,.int .i64 v.nm,.string ⟨v.tx.toArray⟩,.slice B v.ls.length d,.slice B' v.ms.length d'] 25)):=(Fr.refl w).alloc _
 generalize (w.alloc (.cells #[.int .i64 v.kd,.int .i64 v.nm,.string ⟨v.tx.toArray⟩,.slice B v.ls.length d,.slice B' v.ms.length d'] 25))=W0 at hx0 hf0 ⊢
 obtain ⟨X5,hX5⟩:∃ X,w.heap.size=X:=⟨_,rfl⟩
 have HX5:=Lib.hid hX5
 rw [hX5] at hx0 ⊢
 clear hX5
 obtain ⟨⟨x0,x1,x2,x3,x4⟩,_⟩:=box5 hx0
 have HX0:=Lib.hid hx0
 have HF0:=Lib.hid hf0
 clear hx0 hf0
 rcases hbad with h1 | ⟨rfl,h1⟩ | ⟨rfl,h1,h2⟩
 ·have e1:((ck:Int) != 0)=true:=by rw [bne_iff_ne];omega
  have e2:¬ (ck:Int)=0:=by omega
  clear h1
  go_wp2_with (first
   | (go_at_call 7;have hq:=HF2.out;refine (awake24 _ (HT.out.keep (HF0.out.trans hq)) (HS.out.keep (HF0.out.trans hq)) (HM.out.keep (HF0.out.trans hq))).mono ?_;rintro e w9 ⟨rfl,hf⟩;have HF9:=Lib.hid ((HF0.out.trans hq).trans hf);clear hf hq)
   | (go_at_call 15;have hq:=HF1.out;refine (HCK.out _ (HF0.out.trans hq)).mono ?_;rintro e w2 ⟨rfl,hf⟩;clear y0 y1 y2 y3 y4;obtain ⟨⟨y0,y1,y2,y3,y4⟩,_⟩:=box5 (HX0.out.keep (hq.trans hf));have HF2:=Lib.hid (hq.trans hf);clear hf hq)
   | (go_at_call 7;have hq:=HF1.out;refine (awake24 _ (HT.out.keep (HF0.out.trans hq)) (HS.out.keep (HF0.out.trans hq)) (HM.out.keep (HF0.out.trans hq))).mono ?_;rintro e w9 ⟨rfl,hf⟩;have HF9:=Lib.hid ((HF0.out.trans hq).trans hf);clear hf hq)
   | (go_at_call 13;have hq:=HFa.out;refine (HFW.out _ (HF0.out.trans hq)).mono ?_;rintro e w1 ⟨⟨b1,rfl⟩,hf⟩;clear y0 y1 y2 y3 y4;obtain ⟨⟨y0,y1,y2,y3,y4⟩,_⟩:=box5 (HX0.out.keep (hq.trans hf));have HF1:=Lib.hid (hq.trans hf);clear hf hq;cases b1)
   | (go_at_call 7;refine (awake24 _ (HT.out.keep HF0.out) (HS.out.keep HF0.out) (HM.out.keep HF0.out)).mono ?_;rintro e wa ⟨rfl,hf⟩;obtain ⟨⟨y0,y1,y2,y3,y4⟩,_⟩:=box5 (HX0.out.keep hf);have HFa:=Lib.hid hf;clear hf))
  all_goals (go_ret;exact ⟨rfl,HF9.out⟩)
 ·have e1:(100:Int)<(PB.size:Int):=by omega
  go_wp2_with (first
   | (go_at_call 7;have hq:=HF2.out;refine (awake24 _ (HT.out.keep (HF0.out.trans hq)) (HS.out.keep (HF0.out.trans hq)) (HM.out.keep (HF0.out.trans hq))).mono ?_;rintro e w9 ⟨rfl,hf⟩;have HF9:=Lib.hid ((HF0.out.trans hq).trans hf);clear hf hq)
   | (go_at_call 15;have hq:=HF1.out;refine (HCK.out _ (HF0.out.trans hq)).mono ?_;rintro e w2 ⟨rfl,hf⟩;clear y0 y1 y2 y3 y4;obtain ⟨⟨y0,y1,y2,y3,y4⟩,_⟩:=box5 (HX0.out.keep (hq.trans hf));have HF2:=Lib.hid (hq.trans hf);clear hf hq)
   | (go_at_call 7;have hq:=HF1.out;refine (awake24 _ (HT.out.keep (HF0.out.trans hq)) (HS.out.keep (HF0.out.trans hq)) (HM.out.keep (HF0.out.trans hq))).mono ?_;rintro e w9 ⟨rfl,hf⟩;have HF9:=Lib.hid ((HF0.out.trans hq).trans hf);clear hf hq)
   | (go_at_call 13;have hq:=HFa.out;refine (HFW.out _ (HF0.out.trans hq)).mono ?_;rintro e w1 ⟨⟨b1,rfl⟩,hf⟩;clear y0 y1 y2 y3 y4;obtain ⟨⟨y0,y1,y2,y3,y4⟩,_⟩:=box5 (HX0.out.keep (hq.trans hf));have HF1:=Lib.hid (hq.trans hf);clear hf hq;cases b1)
   | (go_at_call 7;refine (awake24 _ (HT.out.keep HF0.out) (HS.out.keep HF0.out) (HM.out.keep HF0.out)).mono ?_;rintro e wa ⟨rfl,hf⟩;obtain ⟨⟨y0,y1,y2,y3,y4⟩,_⟩:=box5 (HX0.out.keep hf);have HFa:=Lib.hid hf;clear hf))
  all_goals (go_ret;exact ⟨rfl,HF9.out⟩)
 ·have e1:(PB.size:Int)≤100:=by omega
  have e2:(l.length:Int)=0:=by omega
  have e3:((l.length:Int) == 0)=true:=by rw [e2];rfl
  have e4:l=[]:=List.eq_nil_of_length_eq_zero h2
  subst e4
  clear e2 e3 h1 h2
  go_wp2_with (first
   | (go_at_call 7;have hq:=HF2.out;refine (awake24 _ (HT.out.keep (HF0.out.trans hq)) (HS.out.keep (HF0.out.trans hq)) (HM.out.keep (HF0.out.trans hq))).mono ?_;rintro e w9 ⟨rfl,hf⟩;have HF9:=Lib.hid ((HF0.out.trans hq).trans hf);clear hf hq)
   | (go_at_call 15;have hq:=HF1.out;refine (HCK.out _ (HF0.out.trans hq)).mono ?_;rintro e w2 ⟨rfl,hf⟩;clear y0 y1 y2 y3 y4;obtain ⟨⟨y0,y1,y2,y3,y4⟩,_⟩:=box5 (HX0.out.keep (hq.trans hf));have HF2:=Lib.hid (hq.trans hf);clear hf hq)
   | (go_at_call 7;have hq:=HF1.out;refine (awake24 _ (HT.out.keep (HF0.out.trans hq)) (HS.out.keep (HF0.out.trans hq)) (HM.out.keep (HF0.out.trans hq))).mono ?_;rintro e w9 ⟨rfl,hf⟩;have HF9:=Lib.hid ((HF0.out.trans hq).trans hf);clear hf hq)
   | (go_at_call 13;have hq:=HFa.out;refine (HFW.out _ (HF0.out.trans hq)).mono ?_;rintro e w1 ⟨⟨b1,rfl⟩,hf⟩;clear y0 y1 y2 y3 y4;obtain ⟨⟨y0,y1,y2,y3,y4⟩,_⟩:=box5 (HX0.out.keep (hq.trans hf));have HF1:=Lib.hid (hq.trans hf);clear hf hq;cases b1)
   | (go_at_call 7;refine (awake24 _ (HT.out.keep HF0.out) (HS.out.keep HF0.out) (HM.out.keep HF0.out)).mono ?_;rintro e wa ⟨rfl,hf⟩;obtain ⟨⟨y0,y1,y2,y3,y4⟩,_⟩:=box5 (HX0.out.keep hf);have HFa:=Lib.hid hf;clear hf))
  all_goals (go_ret;exact ⟨rfl,HF9.out⟩)
theorem refres_good (v:JV) (B:Option Addr) (d:Nat) (B':Option Addr) (d':Nat) (l:List CallV) (A:Option Addr) (c:Nat) (n:Nat) (hn255:n≤255) (pt nm:List UInt8) (w:World) (hv:InV w (Lo w.heap.size) v (vA v B d B' d')) (hbv:JV.bulk v≤1048576) (hcs:CsR w A l) (hl:l.length≤1048576) (hn:∀ q∈l,JV.bulk q.1.2≤1048576∧q.1.1.length≤1048576∧q.2.length≤1048576∧q.1.1.length+q.2.length≤1048576) (hT:LowTabs w) (hS:SpTab w) (hM:MxL w) (cq:Nat) (hck:JV.chk v 1 0=(0,cq)) (hp:pt.length≤100) (hnm:nm.length≤1048576) (h0:0<l.length) (hlc:l.length≤c):
  Calls Tryz.prog 6 #[.agg #[.int .i64 v.kd,.int .i64 v.nm,.string ⟨v.tx.toArray⟩,.slice B v.ls.length d,.slice B' v.ms.length d'],.slice A l.length c,.int .u8 (n:Nat),.string ⟨pt.toArray⟩,.string ⟨nm.toArray⟩] w fun e w'=>e=.returned (.bool true)∧Fr w w':=by
 have hn1:∀ q∈l,JV.bulk q.1.2≤1048576:=fun q hq=>(hn q hq).1
 have HT:=Lib.hid hT
 have HS:=Lib.hid hS
 have HM:=Lib.hid hM
 have HFW:Hid (∀ W,Fr w W→Calls Tryz.prog 13 #[.agg #[.int .i64 v.kd,.int .i64 v.nm,.string ⟨v.tx.toArray⟩,.slice B v.ls.length d,.slice B' v.ms.length d'],.slice A l.length c] W fun e w'=>(∃ b:Bool,e=.returned (.bool b))∧Fr W w'):=Lib.hid (fun W hW=>few24_is v B d B' d' l A c W ((hv.keep (Nat.le_refl _) hW).lo hW.size) hbv (((hcs.z.keep (Nat.le_refl _) hW).lo hW.size)) hl hn1)
 have HKV:Hid (∀ W,Fr w W→InV W (Lo W.heap.size) v (vA v B d B' d')):=Lib.hid (fun W hW=>(hv.keep (Nat.le_refl _) hW).lo hW.size)
 have HCK:Hid (∀ W,Fr w W→Calls Tryz.prog 15 #[.agg #[.int .i64 v.kd,.int .i64 v.nm,.string ⟨v.tx.toArray⟩,.slice B v.ls.length d,.slice B' v.ms.length d']] W fun e w'=>e=.returned (.int .i64 0)∧Fr W w'):=Lib.hid (fun W hW=>ccheck_is v B d B' d' W 0 cq (HKV.out W hW) hck)
 have HOK:Hid (JV.okB v=true):=Lib.hid (JV.chk_ok v 1 0 (by rw [hck])).1
 have HMS:Hid (MsC w (Lo w.heap.size) B' v.ms):=Lib.hid hv.msC'
 have HCZ:Hid (CsZ w w.heap.size A l):=Lib.hid hcs.z
 have HN:=Lib.hid hn
 have HBV:=Lib.hid hbv
 have hbe:=Rf.bulk_eq v
 have hml:=Rf.bigM_len v.ms
 have hml2:(v.ms.length:Int)≤1048576:=by omega
 have hl2:(l.length:Int)≤1048576:=by omega
 have h0':(0:Int)<(l.length:Int):=by omega
 have e0:((l.length:Int) == 0)=false:=by rw [beq_eq_false_iff_ne];omega
 have hle:¬ l=[]:=by intro e;rw [e] at h0;exact absurd h0 (by simp)
 obtain ⟨k,hk⟩:∃ k,n % l.length=k:=⟨_,rfl⟩
 have hkl:k<l.length:=by rw [← hk];exact Nat.mod_lt _ h0
 have hkt:Int.tmod (n:Int) (l.length:Int)=(k:Int):=by rw [Int.tmod_eq_emod_of_nonneg (by omega)];omega
 have hkl':(k:Int)<(l.length:Int):=by omega
 have hk0:(0:Int)≤(k:Int):=by omega
 have hn3:(n:Int)≤255:=by omega
 have hwn:IntKind.i64.wrap (n:Int)=(n:Int):=by rw [IntKind.wrap_i64];omega
 have HPT:=Lib.hid hp
 have HNL:=Lib.hid hnm
 obtain ⟨PB,hPB⟩:∃ S:ByteArray,(⟨pt.toArray⟩:ByteArray)=S:=⟨_,rfl⟩
 obtain ⟨NB,hNB⟩:∃ S:ByteArray,(⟨nm.toArray⟩:ByteArray)=S:=⟨_,rfl⟩
 have hps:(PB.size:Int)≤100:=by rw [← hPB,ba_size];omega
 have hns:(NB.size:Int)≤1048576:=by rw [← hNB,ba_size];omega
 rw [hPB,hNB]
 have HPB:=Lib.hid hPB
 have HNB:=Lib.hid hNB
 clear hv hbv hcs hn hn1 hT hS hM hck hbe hml hk hp hnm hPB hNB
 go_enter Tryz.func6,Tryz.ntmps6
 go_upto_region 1 with fail
 have hx0:Blk (w.alloc (.cells #[.int .i64 v.kd,.int .i64 v.nm,.string ⟨v.tx.toArray⟩,.slice B v.ls.length d,.slice B' v.ms.length d'] 25)) w.heap.size #[.int .i64 v.kd,.int .i64 v.nm,.string ⟨v.tx.toArray⟩,.slice B v.ls.length d,.slice B' v.ms.length d'] 25:=Blk.made w _ _
 have hf0:Fr w (w.alloc (.cells #[.int .i64 v.kd,.int .i64 v.nm,.string ⟨v.tx.toArray⟩,.slice B v.ls.length d,.slice B' v.ms.length d'] 25)):=(Fr.refl w).alloc _
 generalize (w.alloc (.cells #[.int .i64 v.kd,.int .i64 v.nm,.string ⟨v.tx.toArray⟩,.slice B v.ls.length d,.slice B' v.ms.length d'] 25))=W0 at hx0 hf0 ⊢
 obtain ⟨X5,hX5⟩:∃ X,w.heap.size=X:=⟨_,rfl⟩
 have HX5:=Lib.hid hX5
 rw [hX5] at hx0 ⊢
 clear hX5
 obtain ⟨⟨x0,x1,x2,x3,x4⟩,_⟩:=box5 hx0
 have HX0:=Lib.hid hx0
 have HF0:=Lib.hid hf0
 clear hx0 hf0
 go_upto_region 3 with (first
  | (go_at_call 15;have hq:=HF1.out;refine (HCK.out _ (HF0.out.trans hq)).mono ?_;rintro e w2 ⟨rfl,hf⟩;clear y0 y1 y2 y3 y4;obtain ⟨⟨y0,y1,y2,y3,y4⟩,_⟩:=box5 (HX0.out.keep (hq.trans hf));have HF2:=Lib.hid (hq.trans hf);clear hf hq)
  | (go_at_call 13;have hq:=HFa.out;refine (HFW.out _ (HF0.out.trans hq)).mono ?_;rintro e w1 ⟨⟨b1,rfl⟩,hf⟩;clear y0 y1 y2 y3 y4;obtain ⟨⟨y0,y1,y2,y3,y4⟩,_⟩:=box5 (HX0.out.keep (hq.trans hf));have HF1:=Lib.hid (hq.trans hf);clear hf hq;cases b1)
  | (go_at_call 7;refine (awake24 _ (HT.out.keep HF0.out) (HS.out.keep HF0.out) (HM.out.keep HF0.out)).mono ?_;rintro e wa ⟨rfl,hf⟩;obtain ⟨⟨y0,y1,y2,y3,y4⟩,_⟩:=box5 (HX0.out.keep hf);have HFa:=Lib.hid hf;clear hf))
 ·go_wp2_with (go_at_call 7;have hq:=HF1.out;refine (awake24 _ (HT.out.keep (HF0.out.trans hq)) (HS.out.keep (HF0.out.trans hq)) (HM.out.keep (HF0.out.trans hq))).mono ?_;rintro e w9 ⟨rfl,hf⟩;have HF9:=Lib.hid ((HF0.out.trans hq).trans hf);clear hf hq)
  go_ret
  exact ⟨rfl,HF9.out⟩
 clear x0 x1 x2 x3 x4 y0 y1 y2 y3 y4
 obtain ⟨W3,hW3⟩:∃ W,W=w2:=⟨_,rfl⟩
 subst hW3
 have HFW3:Hid (Fr w W3):=Lib.hid (HF0.out.trans HF2.out)
 have HX3:=Lib.hid (HX0.out.keep HF2.out)
 clear HFa HF1 HF2 HX0 HF0 HFW HCK
 go_upto_region 5 with fail
 go_loopw [12] (fun j wr=>∃ i:Nat,i≤v.ms.length∧j=.int .i64 i∧Hid (∀ y (hy:y<v.ms.length),y<i→(∀ r,v.ms[y].1≠35::r)∧v.ms[y].1≠nm)∧Hid (Fr W3 wr)) (fun j _=>v.ms.length - (intOf j).toNat)
 case atStart=>exact ⟨0,by omega,rfl,Lib.hid (fun y _ h=>absurd h (by omega)),Lib.hid (Fr.refl _)⟩
 case round=>
  obtain ⟨i,hi,rfl,hO,hF⟩:=hrel
  obtain ⟨⟨x0,x1,x2,x3,x4⟩,_⟩:=box5 (HX3.out.keep hF.out)
  by_cases hlt:i<v.ms.length
  ·have hlt':(i:Int)<(v.ms.length:Int):=by omega
   have h0i:(0:Int)≤(i:Int):=by omega
   obtain ⟨b,o,P1,p1,P2,p2,rfl,hb,hnl,c0,_,_⟩:=(HMS.out.keep (Nat.le_refl _) (HFW3.out.trans hF.out)) i hlt
   obtain ⟨s,hs⟩:∃ q,v.ms[i].1=q:=⟨_,rfl⟩
   rw [hs] at hnl c0
   have HSI:=Lib.hid hs
   obtain ⟨S,hS⟩:∃ S:ByteArray,(⟨s.toArray⟩:ByteArray)=S:=⟨_,rfl⟩
   rw [hS] at c0
   have hsl:S.size=s.length:=by rw [← hS];exact ba_size s
   clear hs hb
   rcases Rf.twin s with ⟨r,hr⟩ | hr | ⟨c1,r,hr,hc1⟩ | hr | ⟨c1,r,hr,hc1⟩
   ·have hg:S[0]? = some 35:=by rw [← hS,hr];exact ba_head _ _
    have hSn:0<S.size:=by rw [hsl,hr];simp
    have hs0:(0:Int)<(S.size:Int):=by omega
    obtain ⟨cs,hcs⟩:∃ c:UInt8,35=c:=⟨_,rfl⟩
    have hSh:S[0]=cs:=by have h:=getElem?_pos S 0 hSn;rw [hg,hcs] at h;exact (Option.some.inj h).symm
    have hS1:((cs.toNat:Int) == 35)=true:=by rw [← hcs];rfl
    have hS2:(cs.toNat:Int)=35:=by rw [← hcs];rfl
    clear hg hcs hr hS hsl hnl
    go_wp2_with fail
    go_ret
    exact ⟨rfl,HFW3.out.trans hF.out⟩
   ·have hg:S[0]? = some 35:=by rw [← hS,hr];exact ba_head _ _
    have hSn:0<S.size:=by rw [hsl,hr];simp
    have hs0:(0:Int)<(S.size:Int):=by omega
    obtain ⟨cs,hcs⟩:∃ c:UInt8,35=c:=⟨_,rfl⟩
    have hSh:S[0]=cs:=by have h:=getElem?_pos S 0 hSn;rw [hg,hcs] at h;exact (Option.some.inj h).symm
    have hS1:((cs.toNat:Int) == 35)=true:=by rw [← hcs];rfl
    have hS2:(cs.toNat:Int)=35:=by rw [← hcs];rfl
    clear hg hcs hr hS hsl hnl
    go_wp2_with fail
    go_ret
    exact ⟨rfl,HFW3.out.trans hF.out⟩
   ·have hg:S[0]? = some 35:=by rw [← hS,hr];exact ba_head _ _
    have hSn:0<S.size:=by rw [hsl,hr];simp
    have hs0:(0:Int)<(S.size:Int):=by omega
    obtain ⟨cs,hcs⟩:∃ c:UInt8,35=c:=⟨_,rfl⟩
    have hSh:S[0]=cs:=by have h:=getElem?_pos S 0 hSn;rw [hg,hcs] at h;exact (Option.some.inj h).symm
    have hS1:((cs.toNat:Int) == 35)=true:=by rw [← hcs];rfl
    have hS2:(cs.toNat:Int)=35:=by rw [← hcs];rfl
    clear hg hcs hr hS hsl hnl
    go_wp2_with fail
    go_ret
    exact ⟨rfl,HFW3.out.trans hF.out⟩
   ·have hSz:S.size=0:=by rw [hsl,hr];rfl
    have HNH:Hid (∀ r,s≠35::r):=Lib.hid (fun r e=>by rw [hr] at e;cases e)
    clear hr hsl hnl
    by_cases hq:s=nm
    ·have e1:(S.toList == NB.toList)=true:=by rw [← hS,← HNB.out,bl_beq'];simpa using hq
     clear hq hS
     go_wp2_with fail
     go_ret
     exact ⟨rfl,HFW3.out.trans hF.out⟩
    ·have e1:(S.toList == NB.toList)=false:=by rw [← hS,← HNB.out,bl_beq'];simpa using hq
     have HQ:=Lib.hid hq
     clear hq hS
     go_wp2_with fail
     exact ⟨⟨i+1,by omega,by go_num,Lib.hid (fun y hy hyt=>by
      by_cases e:y=i
      ·subst e;rw [HSI.out];exact ⟨HNH.out,HQ.out⟩
      ·exact hO.out y hy (by omega)),hF⟩,by simp [intOf];omega⟩
   ·have hg:S[0]? = some c1:=by rw [← hS,hr];exact ba_head _ _
    have hSn:0<S.size:=by rw [hsl,hr];simp
    have hs0:(0:Int)<(S.size:Int):=by omega
    have hSh:S[0]=c1:=by have h:=getElem?_pos S 0 hSn;rw [hg] at h;exact (Option.some.inj h).symm
    have hq2:((c1.toNat:Int) == 35)=false:=by
     rw [beq_eq_false_iff_ne];intro e
     exact hc1 (UInt8.toNat_inj.1 (by show c1.toNat=35;omega))
    have hq3:¬ (c1.toNat:Int)=35:=by rwa [beq_eq_false_iff_ne] at hq2
    have HNH:Hid (∀ r,s≠35::r):=Lib.hid (fun r e=>by rw [hr] at e;injection e with e _;exact hc1 e)
    clear hg hr hsl hnl hc1
    by_cases hq:s=nm
    ·have e1:(S.toList == NB.toList)=true:=by rw [← hS,← HNB.out,bl_beq'];simpa using hq
     clear hq hS
     go_wp2_with fail
     go_ret
     exact ⟨rfl,HFW3.out.trans hF.out⟩
    ·have e1:(S.toList == NB.toList)=false:=by rw [← hS,← HNB.out,bl_beq'];simpa using hq
     have HQ:=Lib.hid hq
     clear hq hS
     go_wp2_with fail
     exact ⟨⟨i+1,by omega,by go_num,Lib.hid (fun y hy hyt=>by
      by_cases e:y=i
      ·subst e;rw [HSI.out];exact ⟨HNH.out,HQ.out⟩
      ·exact hO.out y hy (by omega)),hF⟩,by simp [intOf];omega⟩
  ·obtain rfl:i=v.ms.length:=by omega
   have HPL:Hid (Rf.plainN v.ms):=Lib.hid (Rf.plain_of (fun x hx r e=>by
    obtain ⟨y,hy,rfl⟩:=List.mem_iff_getElem.1 hx
    exact (hO.out y hy hy).1 r e))
   have HNM:Hid (nm ∉ v.ms.map (·.1)):=Lib.hid (fun hm=>by
    obtain ⟨x,hx,e⟩:=List.mem_map.1 hm
    obtain ⟨y,hy,rfl⟩:=List.mem_iff_getElem.1 hx
    exact (hO.out y hy hy).2 e)
   have HFR:Hid (Fr w wr):=Lib.hid (HFW3.out.trans hF.out)
   obtain ⟨W8,hW8⟩:∃ W,W=wr:=⟨_,rfl⟩
   subst hW8
   have HX8:=Lib.hid (HX3.out.keep hF.out)
   by_cases h6:v.kd=6
   ·have e6:(v.kd != 6)=false:=by rw [h6];rfl
    obtain ⟨⟨x0,x1,x2,x3,x4⟩,_⟩:=box5 HX8.out
    have H6:=Lib.hid h6
    clear h6
    have hnw:(∃ r,nm=35::r)∨nm=[] ∨ ∃ c1 r,nm=c1::r∧c1≠35:=by
     cases nm with
     | nil=>exact .inr (.inl rfl)
     | cons c1 r=>
      by_cases hc:c1=35
      ·subst hc;exact .inl ⟨r,rfl⟩
      ·exact .inr (.inr ⟨c1,r,rfl,hc⟩)
    rcases hnw with ⟨r,hr⟩ | hnw
    ·have hg:NB[0]? = some 35:=by rw [← HNB.out,hr];exact ba_head _ _
     have hSn:0<NB.size:=by rw [← HNB.out,ba_size,hr];simp
     have hs0:(0:Int)<(NB.size:Int):=by omega
     obtain ⟨cs,hcs⟩:∃ c:UInt8,35=c:=⟨_,rfl⟩
     have hSh:NB[0]=cs:=by have h:=getElem?_pos NB 0 hSn;rw [hg,hcs] at h;exact (Option.some.inj h).symm
     have hS1:((cs.toNat:Int) == 35)=true:=by rw [← hcs];rfl
     have hS2:(cs.toNat:Int)=35:=by rw [← hcs];rfl
     clear hg hcs hr
     go_wp2_with fail
     go_ret
     exact ⟨rfl,HFR.out⟩
    ·have HNW:=Lib.hid hnw
     clear hnw
     go_upto_region 9 with fail
     go_cut [101] from 89 to 102 (fun q wx=>q=.bool false∧Hid (W8=wx))
     case first=>
      rcases HNW.out with hr | ⟨c1,r,hr,hc1⟩
      ·have hSz:NB.size=0:=by rw [← HNB.out,ba_size,hr];rfl
       clear hr
       go_upto_region 11 with fail
       go_meet
       exact ⟨rfl,Lib.hid rfl⟩
      ·have hg:NB[0]? = some c1:=by rw [← HNB.out,hr];exact ba_head _ _
       have hSn:0<NB.size:=by rw [← HNB.out,ba_size,hr];simp
       have hs0:(0:Int)<(NB.size:Int):=by omega
       have hSh:NB[0]=c1:=by have h:=getElem?_pos NB 0 hSn;rw [hg] at h;exact (Option.some.inj h).symm
       have hq2:((c1.toNat:Int) == 35)=false:=by
        rw [beq_eq_false_iff_ne];intro e
        exact hc1 (UInt8.toNat_inj.1 (by show c1.toNat=35;omega))
       have hq3:¬ (c1.toNat:Int)=35:=by rwa [beq_eq_false_iff_ne] at hq2
       clear hg hr hc1
       go_upto_region 11 with fail
       go_meet
       exact ⟨rfl,Lib.hid rfl⟩
     obtain ⟨rfl,hwc⟩:=hcut
     obtain rfl:=hwc.out
     clear x0 x1 x2 x3 x4
     obtain ⟨⟨x0,x1,x2,x3,x4⟩,_⟩:=box5 HX8.out
     have HRV:Hid (∀ W,Fr W8 W→Calls Tryz.prog 14 #[.agg #[.int .i64 v.kd,.int .i64 v.nm,.string ⟨v.tx.toArray⟩,.slice B v.ls.length d,.slice B' v.ms.length d'],.slice A l.length c] W fun e w'=>∃ (D:Option Addr) (g:Nat),e=.returned (.tuple #[.agg #[.int .i64 6,.int .i64 0,.string ⟨#[]⟩,.slice none 0 0,.slice D v.ms.length g],.int .i64 0])∧InV w' (Lo w'.heap.size) v (.agg #[.int .i64 6,.int .i64 0,.string ⟨#[]⟩,.slice none 0 0,.slice D v.ms.length g])∧Fr W w'):=Lib.hid (fun W hW=>by
      have h:=resolve_is v B d B' d' l A c W W.heap.size (Nat.le_refl _) (HKV.out W (HFR.out.trans hW)) ((HCZ.out.keep (Nat.le_refl _) (HFR.out.trans hW)).lo (HFR.out.trans hW).size) (by omega) (Nat.le_trans HBV.out (by decide)) (fun q hq=>(HN.out q hq).1) (HM.out.keep (HFR.out.trans hW))
      rw [Rf.resolve_plain l HOK.out H6.out HPL.out] at h
      exact h.mono (by rintro e w' ⟨D,g,rfl,_,hi,_,hf⟩;exact ⟨D,g,rfl,hi,hf⟩))
     go_upto_region 12 with (go_at_call 14;refine (HRV.out _ (Fr.refl _)).mono ?_;rintro e w9 ⟨D,g,rfl,hi,hf⟩;have HI:=Lib.hid hi;have HF9:=Lib.hid hf;clear hi hf)
     clear x0 x1 x2 x3 x4 HRV
     have hb9:Blk (w9.alloc (.cells #[.int .i64 6,.int .i64 0,.string ⟨#[]⟩,.slice none 0 0,.slice D v.ms.length g] 25)) w9.heap.size #[.int .i64 6,.int .i64 0,.string ⟨#[]⟩,.slice none 0 0,.slice D v.ms.length g] 25:=Blk.made w9 _ _
     have hf9:Fr W8 (w9.alloc (.cells #[.int .i64 6,.int .i64 0,.string ⟨#[]⟩,.slice none 0 0,.slice D v.ms.length g] 25)):=HF9.out.alloc _
     have hi9:InV (w9.alloc (.cells #[.int .i64 6,.int .i64 0,.string ⟨#[]⟩,.slice none 0 0,.slice D v.ms.length g] 25)) (Lo (w9.alloc (.cells #[.int .i64 6,.int .i64 0,.string ⟨#[]⟩,.slice none 0 0,.slice D v.ms.length g] 25)).heap.size) v (.agg #[.int .i64 6,.int .i64 0,.string ⟨#[]⟩,.slice none 0 0,.slice D v.ms.length g]):=(HI.out.keep (Nat.le_refl _) ((Fr.refl w9).alloc _)).lo ((Fr.refl w9).alloc _).size
     generalize (w9.alloc (.cells #[.int .i64 6,.int .i64 0,.string ⟨#[]⟩,.slice none 0 0,.slice D v.ms.length g] 25))=W9 at hb9 hf9 hi9 ⊢
     generalize w9.heap.size=X13 at hb9 ⊢
     have HSM:Hid (Calls Tryz.prog 12 #[.agg #[.int .i64 6,.int .i64 0,.string ⟨#[]⟩,.slice none 0 0,.slice D v.ms.length g],.agg #[.int .i64 v.kd,.int .i64 v.nm,.string ⟨v.tx.toArray⟩,.slice B v.ls.length d,.slice B' v.ms.length d']] W9 fun e w'=>e=.returned (.bool true)∧Fr W9 w'):=Lib.hid (by
      refine ((same_is v v _ _).call true (by simp) ?sx1 ?sx2 hi9 (HKV.out W9 (HFR.out.trans hf9))).mono ?_
      ·rfl
      ·rfl
      ·exact fun e w' h=>h)
     obtain ⟨⟨x0,x1,x2,x3,x4⟩,_⟩:=box5 hb9
     obtain ⟨⟨y0,y1,y2,y3,y4⟩,_⟩:=box5 (HX8.out.keep hf9)
     have HG9:=Lib.hid hf9
     clear hb9 hf9 hi9 HI HF9
     go_upto_region 14 with (go_at_call 12;refine HSM.out.mono ?_;rintro e w10 ⟨rfl,hf⟩;have HF10:=Lib.hid (HG9.out.trans hf);clear hf)
     clear x0 x1 x2 x3 x4 y0 y1 y2 y3 y4 HSM
     obtain ⟨W10,hW10⟩:∃ W,W=w10:=⟨_,rfl⟩
     subst hW10
     have HFT:Hid (Fr w W10):=Lib.hid (HFR.out.trans HF10.out)
     have HX10:=Lib.hid (HX8.out.keep HF10.out)
     obtain ⟨bk,ok,_,_,_,_,hA,hbk,cn,_,ci,_⟩:=(HCZ.out.keep (Nat.le_refl _) HFT.out) k hkl
     subst hA
     obtain ⟨ia,hia⟩:∃ q,l[k].2=q:=⟨_,rfl⟩
     obtain ⟨ib,hib⟩:∃ q,l[k].1.1=q:=⟨_,rfl⟩
     rw [hia] at ci
     rw [hib] at cn
     have HIA:=Lib.hid hia
     have HIB:=Lib.hid hib
     have hbw:bk<W10.heap.size:=Nat.lt_of_lt_of_le hbk HFT.out.size
     have HS15:Hid (∀ W,Fr W10 W→W.cell? ⟨bk,ok+k*7+6,none⟩=some (.string ⟨ia.toArray⟩)∧W.cell? ⟨bk,ok+k*7,none⟩=some (.string ⟨ib.toArray⟩)):=Lib.hid (fun W hW=>⟨(hW.cell hbw).trans ci,(hW.cell hbw).trans cn⟩)
     have HBK:=Lib.hid hbk
     clear cn ci hia hib hbw hbk
     have HTX:Hid (∀ (S:ByteArray) W,Calls Tryz.prog 17 #[.string S] W fun e w'=>e=.returned (.agg #[.int .i64 4,.int .i64 0,.string S,.slice none 0 0,.slice none 0 0])∧Fr W w'):=Lib.hid text24_is
     go_upto_region 15 with fail
     go_cut [16] from 116 to 138 (fun q wx=>∃ (X16 XS:Nat),q=.pointer (some ⟨X16,0,none⟩)∧Hid (Blk wx X16 #[.int .i64 6,.int .i64 0,.string ⟨#[]⟩,.slice none 0 0,.slice (some ⟨XS,0,none⟩) 3 3] 25)∧Hid (Blk wx XS #[.string ⟨#[114,101,115,117,108,116,79,102]⟩,.int .i64 4,.int .i64 0,.string ⟨ia.toArray⟩,.slice none 0 0,.slice none 0 0,.string ⟨#[110,97,109,101]⟩,.int .i64 4,.int .i64 0,.string ⟨ib.toArray⟩,.slice none 0 0,.slice none 0 0,.string ⟨#[112,97,116,104]⟩,.int .i64 4,.int .i64 0,.string PB,.slice none 0 0,.slice none 0 0] 39)∧Hid (Fr W10 wx))
     case first=>
      refine wp_region_held_drew (S:=(fun W=>W.cell? ⟨bk,ok+k*7+6,none⟩=some (.string ⟨ia.toArray⟩)∧W.cell? ⟨bk,ok+k*7,none⟩=some (.string ⟨ib.toArray⟩))) (by kernel_rfl) ?_ (fun hHeld=>?_)
      ·exact HS15.out _ (Fr.refl _).drew
      refine tk (i:=0) (v:=?_) rfl ⟨by rfl,?_⟩ hHeld ?_
      rotate_left
      ·(intro w' hSw;(try dsimp only at hSw);go_simp;try with_reducible rfl)
      try simp only [Act.put,fl]
      refine tk (i:=1) (v:=?_) rfl ⟨by rfl,?_⟩ hHeld ?_
      rotate_left
      ·(intro w' hSw;(try dsimp only at hSw);go_simp;try with_reducible rfl)
      try simp only [Act.put,fl]
      refine tk (i:=2) (v:=?_) rfl ⟨by rfl,?_⟩ hHeld ?_
      rotate_left
      ·(intro w' hSw;(try dsimp only at hSw);go_simp;try with_reducible rfl)
      try simp only [Act.put,fl]
      refine tk (i:=3) (v:=?_) rfl ⟨by rfl,?_⟩ hHeld ?_
      rotate_left
      ·(intro w' hSw;(try dsimp only at hSw);go_simp;try with_reducible rfl)
      try simp only [Act.put,fl]
      refine tk (i:=4) (v:=?_) rfl ⟨by rfl,?_⟩ hHeld ?_
      rotate_left
      ·(intro w' hSw;(try dsimp only at hSw);go_simp;try with_reducible rfl)
      try simp only [Act.put,fl]
      refine tk (i:=5) (v:=?_) rfl ⟨by rfl,?_⟩ hHeld ?_
      rotate_left
      ·(intro w' hSw;(try dsimp only at hSw);go_simp;try with_reducible rfl)
      try simp only [Act.put,fl]
      refine tk (i:=8) (v:=?_) rfl ⟨by rfl,?_⟩ hHeld ?_
      rotate_left
      ·(intro w' hSw;(try dsimp only at hSw);go_simp;try with_reducible rfl)
      try simp only [Act.put,fl]
      refine tk (i:=9) (v:=?_) rfl ⟨by rfl,?_⟩ hHeld ?_
      rotate_left
      ·(intro w' hSw;(try dsimp only at hSw);go_simp;try with_reducible rfl)
      try simp only [Act.put,fl]
      refine tk (i:=10) (v:=?_) rfl ⟨by rfl,?_⟩ hHeld ?_
      rotate_left
      ·(intro w' hSw;(try dsimp only at hSw);go_simp;try with_reducible rfl)
      try simp only [Act.put,fl]
      refine tk (i:=11) (v:=?_) rfl ⟨by rfl,?_⟩ hHeld ?_
      rotate_left
      ·(intro w' hSw;(try dsimp only at hSw);go_simp;try with_reducible rfl)
      try simp only [Act.put,fl]
      refine tk (i:=12) (v:=?_) rfl ⟨by rfl,?_⟩ hHeld ?_
      rotate_left
      ·(intro w' hSw;(try dsimp only at hSw);go_simp;try with_reducible rfl)
      try simp only [Act.put,fl]
      refine tk (i:=13) (v:=?_) rfl ⟨by rfl,?_⟩ hHeld ?_
      rotate_left
      ·(intro w' hSw;(try dsimp only at hSw);go_simp;try with_reducible rfl)
      try simp only [Act.put,fl]
      refine tk (i:=16) (v:=?_) rfl ⟨by rfl,?_⟩ hHeld ?_
      rotate_left
      ·(intro w' hSw;(try dsimp only at hSw);go_simp;try with_reducible rfl)
      try simp only [Act.put,fl]
      refine tk (i:=17) (v:=?_) rfl ⟨by rfl,?_⟩ hHeld ?_
      rotate_left
      ·(intro w' hSw;(try dsimp only at hSw);go_simp;try with_reducible rfl)
      try simp only [Act.put,fl]
      refine wpAnyH_ready (rs:=[6,22]) (by kernel_rfl) (by simp) ?_
      refine AllReadyH.cons rfl (fun K hK=>?_) (AllReadyH.cons rfl (fun K hK=>?_) AllReadyH.nil)
      ·go_simp
       (go_at_call 17;refine (HTX.out _ _).mono ?_;rintro e w1 ⟨rfl,hf⟩;have HFw1:Hid (Fr W10 w1):=Lib.hid (((Fr.refl W10).drew).trans hf);clear hf)
       refine hK.out _ _ (HS15.out _ HFw1.out) (fun hHw1=>?_)
       clear hK K
       try simp only [Act.put,fl]
       refine tk (i:=7) (v:=?_) rfl ⟨by rfl,?_⟩ hHw1 ?_
       rotate_left
       ·(intro w' hSw;(try dsimp only at hSw);go_simp;try with_reducible rfl)
       try simp only [Act.put,fl]
       refine wpAnyH_ready (rs:=[14,22]) (by kernel_rfl) (by simp) ?_
       refine AllReadyH.cons rfl (fun K hK=>?_) (AllReadyH.cons rfl (fun K hK=>?_) AllReadyH.nil)
       ·go_simp
        (go_at_call 17;refine (HTX.out _ _).mono ?_;rintro e w2 ⟨rfl,hf⟩;have HFw2:Hid (Fr W10 w2):=Lib.hid ((HFw1.out).trans hf);clear hf)
        refine hK.out _ _ (HS15.out _ HFw2.out) (fun hHw2=>?_)
        clear hK K
        try simp only [Act.put,fl]
        refine tk (i:=15) (v:=?_) rfl ⟨by rfl,?_⟩ hHw2 ?_
        rotate_left
        ·(intro w' hSw;(try dsimp only at hSw);go_simp;try with_reducible rfl)
        try simp only [Act.put,fl]
        refine wpAnyH_ready (rs:=[18,22]) (by kernel_rfl) (by simp) ?_
        refine AllReadyH.cons rfl (fun K hK=>?_) (AllReadyH.cons rfl (fun K hK=>?_) AllReadyH.nil)
        ·go_simp
         (go_at_call 17;refine (HTX.out _ _).mono ?_;rintro e w3 ⟨rfl,hf⟩;have HFw3:Hid (Fr W10 w3):=Lib.hid ((HFw2.out).trans hf);clear hf)
         refine hK.out _ _ (HS15.out _ HFw3.out) (fun hHw3=>?_)
         clear hK K
         try simp only [Act.put,fl]
         refine tk (i:=19) (v:=?_) rfl ⟨by rfl,?_⟩ hHw3 ?_
         rotate_left
         ·(intro w' hSw;(try dsimp only at hSw);go_simp;try with_reducible rfl)
         try simp only [Act.put,fl]
         refine wpAnyH_ready (rs:=[20,22]) (by kernel_rfl) (by simp) ?_
         refine AllReadyH.cons rfl (fun K hK=>?_) (AllReadyH.cons rfl (fun K hK=>?_) AllReadyH.nil)
         ·go_simp
          refine hK.out _ _ (HS15.out _ ((HFw3.out).alloc _)) (fun hHWb4=>?_)
          clear hK K
          try simp only [Act.put,fl]
          have hbs:Blk (w3.alloc (.cells #[.string ⟨#[114,101,115,117,108,116,79,102]⟩,.int .i64 4,.int .i64 0,.string ⟨ia.toArray⟩,.slice none 0 0,.slice none 0 0,.string ⟨#[110,97,109,101]⟩,.int .i64 4,.int .i64 0,.string ⟨ib.toArray⟩,.slice none 0 0,.slice none 0 0,.string ⟨#[112,97,116,104]⟩,.int .i64 4,.int .i64 0,.string PB,.slice none 0 0,.slice none 0 0] 39)) w3.heap.size #[.string ⟨#[114,101,115,117,108,116,79,102]⟩,.int .i64 4,.int .i64 0,.string ⟨ia.toArray⟩,.slice none 0 0,.slice none 0 0,.string ⟨#[110,97,109,101]⟩,.int .i64 4,.int .i64 0,.string ⟨ib.toArray⟩,.slice none 0 0,.slice none 0 0,.string ⟨#[112,97,116,104]⟩,.int .i64 4,.int .i64 0,.string PB,.slice none 0 0,.slice none 0 0] 39:=Blk.made w3 _ _
          have hfs:Fr W10 (w3.alloc (.cells #[.string ⟨#[114,101,115,117,108,116,79,102]⟩,.int .i64 4,.int .i64 0,.string ⟨ia.toArray⟩,.slice none 0 0,.slice none 0 0,.string ⟨#[110,97,109,101]⟩,.int .i64 4,.int .i64 0,.string ⟨ib.toArray⟩,.slice none 0 0,.slice none 0 0,.string ⟨#[112,97,116,104]⟩,.int .i64 4,.int .i64 0,.string PB,.slice none 0 0,.slice none 0 0] 39)):=(HFw3.out).alloc _
          have hxs:W10.heap.size≤w3.heap.size:=(HFw3.out).size
          generalize (w3.alloc (.cells #[.string ⟨#[114,101,115,117,108,116,79,102]⟩,.int .i64 4,.int .i64 0,.string ⟨ia.toArray⟩,.slice none 0 0,.slice none 0 0,.string ⟨#[110,97,109,101]⟩,.int .i64 4,.int .i64 0,.string ⟨ib.toArray⟩,.slice none 0 0,.slice none 0 0,.string ⟨#[112,97,116,104]⟩,.int .i64 4,.int .i64 0,.string PB,.slice none 0 0,.slice none 0 0] 39))=Wb4 at hbs hfs hHWb4 ⊢
          generalize w3.heap.size=XS4 at hbs hxs ⊢
          have HBSWb4:=Lib.hid hbs
          have HFWb4:=Lib.hid hfs
          clear hbs hfs hxs
          refine tk (i:=21) (v:=?_) rfl ⟨by rfl,?_⟩ hHWb4 ?_
          rotate_left
          ·(intro w' hSw;(try dsimp only at hSw);go_simp;try with_reducible rfl)
          try simp only [Act.put,fl]
          refine wpAnyH_ready (rs:=[22]) (by kernel_rfl) (by simp) ?_
          refine AllReadyH.cons rfl (fun K hK=>?_) AllReadyH.nil
          go_simp
          refine hK.out _ _ (HS15.out _ ((HFWb4.out).alloc _)) (fun hHa5=>?_)
          clear hK K
          try simp only [Act.put,fl]
          have hba:Blk (Wb4.alloc (.cells #[.int .i64 0,.int .i64 0,.string ⟨#[]⟩,.slice none 0 0,.slice none 0 0] 25)) Wb4.heap.size #[.int .i64 0,.int .i64 0,.string ⟨#[]⟩,.slice none 0 0,.slice none 0 0] 25:=Blk.made Wb4 _ _
          have hfa:Fr W10 (Wb4.alloc (.cells #[.int .i64 0,.int .i64 0,.string ⟨#[]⟩,.slice none 0 0,.slice none 0 0] 25)):=(HFWb4.out).alloc _
          have hxa:W10.heap.size≤Wb4.heap.size:=(HFWb4.out).size
          have hbs:Blk (Wb4.alloc (.cells #[.int .i64 0,.int .i64 0,.string ⟨#[]⟩,.slice none 0 0,.slice none 0 0] 25)) XS4 #[.string ⟨#[114,101,115,117,108,116,79,102]⟩,.int .i64 4,.int .i64 0,.string ⟨ia.toArray⟩,.slice none 0 0,.slice none 0 0,.string ⟨#[110,97,109,101]⟩,.int .i64 4,.int .i64 0,.string ⟨ib.toArray⟩,.slice none 0 0,.slice none 0 0,.string ⟨#[112,97,116,104]⟩,.int .i64 4,.int .i64 0,.string PB,.slice none 0 0,.slice none 0 0] 39:=HBSWb4.out.keep ((Fr.refl Wb4).alloc _)
          have hne:Wb4.heap.size≠XS4:=Nat.ne_of_gt (HBSWb4.out).lt
          generalize (Wb4.alloc (.cells #[.int .i64 0,.int .i64 0,.string ⟨#[]⟩,.slice none 0 0,.slice none 0 0] 25))=Wa6 at hba hfa hHa5 hbs ⊢
          generalize Wb4.heap.size=XA6 at hba hxa hne ⊢
          have HBWa6:=Lib.hid hba
          have HFWa6:=Lib.hid hfa
          have HXWa6:=Lib.hid hxa
          have HBSWa6:=Lib.hid hbs
          have HNEWa6:=Lib.hid hne
          clear hba hfa hxa hbs hne
          obtain ⟨⟨z0,z1,z2,z3,z4⟩,zf0,zf1,zf2,zf3,zf4⟩:=box5 HBWa6.out
          refine wpAnyH_ready (rs:=[23]) (by kernel_rfl) (by simp) ?_
          refine AllReadyH.cons rfl (fun K hK=>?_) AllReadyH.nil
          go_simp
          refine hK.out _ _ (HS15.out _ (st5_fr (HFWa6.out) HXWa6.out _ _ _ _ _)) (fun hHz=>?_)
          clear hK K
          try simp only [Act.put,fl]
          refine wpAnyH_done (by kernel_rfl) ?_ _
          have hb9:Blk (((((Wa6.setCell ⟨XA6,0,none⟩ (.int .i64 6)).setCell ⟨XA6,1,none⟩ (.int .i64 0)).setCell ⟨XA6,2,none⟩ (.string ⟨#[]⟩)).setCell ⟨XA6,3,none⟩ (.slice none 0 0)).setCell ⟨XA6,4,none⟩ (.slice (some ⟨XS4,0,none⟩) 3 3)) XA6 #[.int .i64 6,.int .i64 0,.string ⟨#[]⟩,.slice none 0 0,.slice (some ⟨XS4,0,none⟩) 3 3] 25:=set5 HBWa6.out
          have hs9:Blk (((((Wa6.setCell ⟨XA6,0,none⟩ (.int .i64 6)).setCell ⟨XA6,1,none⟩ (.int .i64 0)).setCell ⟨XA6,2,none⟩ (.string ⟨#[]⟩)).setCell ⟨XA6,3,none⟩ (.slice none 0 0)).setCell ⟨XA6,4,none⟩ (.slice (some ⟨XS4,0,none⟩) 3 3)) XS4 #[.string ⟨#[114,101,115,117,108,116,79,102]⟩,.int .i64 4,.int .i64 0,.string ⟨ia.toArray⟩,.slice none 0 0,.slice none 0 0,.string ⟨#[110,97,109,101]⟩,.int .i64 4,.int .i64 0,.string ⟨ib.toArray⟩,.slice none 0 0,.slice none 0 0,.string ⟨#[112,97,116,104]⟩,.int .i64 4,.int .i64 0,.string PB,.slice none 0 0,.slice none 0 0] 39:=(HBSWa6.out).frx (st5_frx Wa6 XA6 _ _ _ _ _) (Ne.symm HNEWa6.out)
          have hf9:Fr W10 (((((Wa6.setCell ⟨XA6,0,none⟩ (.int .i64 6)).setCell ⟨XA6,1,none⟩ (.int .i64 0)).setCell ⟨XA6,2,none⟩ (.string ⟨#[]⟩)).setCell ⟨XA6,3,none⟩ (.slice none 0 0)).setCell ⟨XA6,4,none⟩ (.slice (some ⟨XS4,0,none⟩) 3 3)):=st5_fr (HFWa6.out) HXWa6.out _ _ _ _ _
          clear z0 z1 z2 z3 z4 zf0 zf1 zf2 zf3 zf4
          generalize (((((Wa6.setCell ⟨XA6,0,none⟩ (.int .i64 6)).setCell ⟨XA6,1,none⟩ (.int .i64 0)).setCell ⟨XA6,2,none⟩ (.string ⟨#[]⟩)).setCell ⟨XA6,3,none⟩ (.slice none 0 0)).setCell ⟨XA6,4,none⟩ (.slice (some ⟨XS4,0,none⟩) 3 3))=W9 at hb9 hf9 hs9 ⊢
          have HB9:=Lib.hid hb9
          have HF9:=Lib.hid hf9
          have HS9:=Lib.hid hs9
          clear hb9 hf9 hs9
          repeat (first | go_skip | go_step)
          go_meet
          exact ⟨XA6,XS4,rfl,HB9,HS9,HF9⟩
         ·go_simp
          refine hK.out _ _ (HS15.out _ ((HFw3.out).alloc _)) (fun hHa7=>?_)
          clear hK K
          try simp only [Act.put,fl]
          have hba:Blk (w3.alloc (.cells #[.int .i64 0,.int .i64 0,.string ⟨#[]⟩,.slice none 0 0,.slice none 0 0] 25)) w3.heap.size #[.int .i64 0,.int .i64 0,.string ⟨#[]⟩,.slice none 0 0,.slice none 0 0] 25:=Blk.made w3 _ _
          have hfa:Fr W10 (w3.alloc (.cells #[.int .i64 0,.int .i64 0,.string ⟨#[]⟩,.slice none 0 0,.slice none 0 0] 25)):=(HFw3.out).alloc _
          have hxa:W10.heap.size≤w3.heap.size:=(HFw3.out).size
          generalize (w3.alloc (.cells #[.int .i64 0,.int .i64 0,.string ⟨#[]⟩,.slice none 0 0,.slice none 0 0] 25))=Wa8 at hba hfa hHa7 ⊢
          generalize w3.heap.size=XA8 at hba hxa ⊢
          have HBWa8:=Lib.hid hba
          have HFWa8:=Lib.hid hfa
          have HXWa8:=Lib.hid hxa
          clear hba hfa hxa
          refine wpAnyH_ready (rs:=[20]) (by kernel_rfl) (by simp) ?_
          refine AllReadyH.cons rfl (fun K hK=>?_) AllReadyH.nil
          go_simp
          refine hK.out _ _ (HS15.out _ ((HFWa8.out).alloc _)) (fun hHWb9=>?_)
          clear hK K
          try simp only [Act.put,fl]
          have hbs:Blk (Wa8.alloc (.cells #[.string ⟨#[114,101,115,117,108,116,79,102]⟩,.int .i64 4,.int .i64 0,.string ⟨ia.toArray⟩,.slice none 0 0,.slice none 0 0,.string ⟨#[110,97,109,101]⟩,.int .i64 4,.int .i64 0,.string ⟨ib.toArray⟩,.slice none 0 0,.slice none 0 0,.string ⟨#[112,97,116,104]⟩,.int .i64 4,.int .i64 0,.string PB,.slice none 0 0,.slice none 0 0] 39)) Wa8.heap.size #[.string ⟨#[114,101,115,117,108,116,79,102]⟩,.int .i64 4,.int .i64 0,.string ⟨ia.toArray⟩,.slice none 0 0,.slice none 0 0,.string ⟨#[110,97,109,101]⟩,.int .i64 4,.int .i64 0,.string ⟨ib.toArray⟩,.slice none 0 0,.slice none 0 0,.string ⟨#[112,97,116,104]⟩,.int .i64 4,.int .i64 0,.string PB,.slice none 0 0,.slice none 0 0] 39:=Blk.made Wa8 _ _
          have hfs:Fr W10 (Wa8.alloc (.cells #[.string ⟨#[114,101,115,117,108,116,79,102]⟩,.int .i64 4,.int .i64 0,.string ⟨ia.toArray⟩,.slice none 0 0,.slice none 0 0,.string ⟨#[110,97,109,101]⟩,.int .i64 4,.int .i64 0,.string ⟨ib.toArray⟩,.slice none 0 0,.slice none 0 0,.string ⟨#[112,97,116,104]⟩,.int .i64 4,.int .i64 0,.string PB,.slice none 0 0,.slice none 0 0] 39)):=(HFWa8.out).alloc _
          have hxs:W10.heap.size≤Wa8.heap.size:=(HFWa8.out).size
          have hb16:Blk (Wa8.alloc (.cells #[.string ⟨#[114,101,115,117,108,116,79,102]⟩,.int .i64 4,.int .i64 0,.string ⟨ia.toArray⟩,.slice none 0 0,.slice none 0 0,.string ⟨#[110,97,109,101]⟩,.int .i64 4,.int .i64 0,.string ⟨ib.toArray⟩,.slice none 0 0,.slice none 0 0,.string ⟨#[112,97,116,104]⟩,.int .i64 4,.int .i64 0,.string PB,.slice none 0 0,.slice none 0 0] 39)) XA8 #[.int .i64 0,.int .i64 0,.string ⟨#[]⟩,.slice none 0 0,.slice none 0 0] 25:=HBWa8.out.keep ((Fr.refl Wa8).alloc _)
          have hne:XA8≠Wa8.heap.size:=Nat.ne_of_lt (HBWa8.out).lt
          generalize (Wa8.alloc (.cells #[.string ⟨#[114,101,115,117,108,116,79,102]⟩,.int .i64 4,.int .i64 0,.string ⟨ia.toArray⟩,.slice none 0 0,.slice none 0 0,.string ⟨#[110,97,109,101]⟩,.int .i64 4,.int .i64 0,.string ⟨ib.toArray⟩,.slice none 0 0,.slice none 0 0,.string ⟨#[112,97,116,104]⟩,.int .i64 4,.int .i64 0,.string PB,.slice none 0 0,.slice none 0 0] 39))=Wb9 at hbs hfs hHWb9 hb16 ⊢
          generalize Wa8.heap.size=XS9 at hbs hxs hne ⊢
          have HBSWb9:=Lib.hid hbs
          have HFWb9:=Lib.hid hfs
          have HBWb9:=Lib.hid hb16
          have HNEWb9:=Lib.hid hne
          clear hbs hfs hxs hb16 hne
          refine tk (i:=21) (v:=?_) rfl ⟨by rfl,?_⟩ hHWb9 ?_
          rotate_left
          ·(intro w' hSw;(try dsimp only at hSw);go_simp;try with_reducible rfl)
          try simp only [Act.put,fl]
          obtain ⟨⟨z0,z1,z2,z3,z4⟩,zf0,zf1,zf2,zf3,zf4⟩:=box5 HBWb9.out
          refine wpAnyH_ready (rs:=[23]) (by kernel_rfl) (by simp) ?_
          refine AllReadyH.cons rfl (fun K hK=>?_) AllReadyH.nil
          go_simp
          refine hK.out _ _ (HS15.out _ (st5_fr (HFWb9.out) HXWa8.out _ _ _ _ _)) (fun hHz=>?_)
          clear hK K
          try simp only [Act.put,fl]
          refine wpAnyH_done (by kernel_rfl) ?_ _
          have hb9:Blk (((((Wb9.setCell ⟨XA8,0,none⟩ (.int .i64 6)).setCell ⟨XA8,1,none⟩ (.int .i64 0)).setCell ⟨XA8,2,none⟩ (.string ⟨#[]⟩)).setCell ⟨XA8,3,none⟩ (.slice none 0 0)).setCell ⟨XA8,4,none⟩ (.slice (some ⟨XS9,0,none⟩) 3 3)) XA8 #[.int .i64 6,.int .i64 0,.string ⟨#[]⟩,.slice none 0 0,.slice (some ⟨XS9,0,none⟩) 3 3] 25:=set5 HBWb9.out
          have hs9:Blk (((((Wb9.setCell ⟨XA8,0,none⟩ (.int .i64 6)).setCell ⟨XA8,1,none⟩ (.int .i64 0)).setCell ⟨XA8,2,none⟩ (.string ⟨#[]⟩)).setCell ⟨XA8,3,none⟩ (.slice none 0 0)).setCell ⟨XA8,4,none⟩ (.slice (some ⟨XS9,0,none⟩) 3 3)) XS9 #[.string ⟨#[114,101,115,117,108,116,79,102]⟩,.int .i64 4,.int .i64 0,.string ⟨ia.toArray⟩,.slice none 0 0,.slice none 0 0,.string ⟨#[110,97,109,101]⟩,.int .i64 4,.int .i64 0,.string ⟨ib.toArray⟩,.slice none 0 0,.slice none 0 0,.string ⟨#[112,97,116,104]⟩,.int .i64 4,.int .i64 0,.string PB,.slice none 0 0,.slice none 0 0] 39:=(HBSWb9.out).frx (st5_frx Wb9 XA8 _ _ _ _ _) (Ne.symm HNEWb9.out)
          have hf9:Fr W10 (((((Wb9.setCell ⟨XA8,0,none⟩ (.int .i64 6)).setCell ⟨XA8,1,none⟩ (.int .i64 0)).setCell ⟨XA8,2,none⟩ (.string ⟨#[]⟩)).setCell ⟨XA8,3,none⟩ (.slice none 0 0)).setCell ⟨XA8,4,none⟩ (.slice (some ⟨XS9,0,none⟩) 3 3)):=st5_fr (HFWb9.out) HXWa8.out _ _ _ _ _
          clear z0 z1 z2 z3 z4 zf0 zf1 zf2 zf3 zf4
          generalize (((((Wb9.setCell ⟨XA8,0,none⟩ (.int .i64 6)).setCell ⟨XA8,1,none⟩ (.int .i64 0)).setCell ⟨XA8,2,none⟩ (.string ⟨#[]⟩)).setCell ⟨XA8,3,none⟩ (.slice none 0 0)).setCell ⟨XA8,4,none⟩ (.slice (some ⟨XS9,0,none⟩) 3 3))=W9 at hb9 hf9 hs9 ⊢
          have HB9:=Lib.hid hb9
          have HF9:=Lib.hid hf9
          have HS9:=Lib.hid hs9
          clear hb9 hf9 hs9
          repeat (first | go_skip | go_step)
          go_meet
          exact ⟨XA8,XS9,rfl,HB9,HS9,HF9⟩
        ·go_simp
         refine hK.out _ _ (HS15.out _ ((HFw2.out).alloc _)) (fun hHa10=>?_)
         clear hK K
         try simp only [Act.put,fl]
         have hba:Blk (w2.alloc (.cells #[.int .i64 0,.int .i64 0,.string ⟨#[]⟩,.slice none 0 0,.slice none 0 0] 25)) w2.heap.size #[.int .i64 0,.int .i64 0,.string ⟨#[]⟩,.slice none 0 0,.slice none 0 0] 25:=Blk.made w2 _ _
         have hfa:Fr W10 (w2.alloc (.cells #[.int .i64 0,.int .i64 0,.string ⟨#[]⟩,.slice none 0 0,.slice none 0 0] 25)):=(HFw2.out).alloc _
         have hxa:W10.heap.size≤w2.heap.size:=(HFw2.out).size
         generalize (w2.alloc (.cells #[.int .i64 0,.int .i64 0,.string ⟨#[]⟩,.slice none 0 0,.slice none 0 0] 25))=Wa11 at hba hfa hHa10 ⊢
         generalize w2.heap.size=XA11 at hba hxa ⊢
         have HBWa11:=Lib.hid hba
         have HFWa11:=Lib.hid hfa
         have HXWa11:=Lib.hid hxa
         clear hba hfa hxa
         refine wpAnyH_ready (rs:=[18]) (by kernel_rfl) (by simp) ?_
         refine AllReadyH.cons rfl (fun K hK=>?_) AllReadyH.nil
         go_simp
         (go_at_call 17;refine (HTX.out _ _).mono ?_;rintro e w12 ⟨rfl,hf⟩;have HFw12:Hid (Fr W10 w12):=Lib.hid ((HFWa11.out).trans hf);have HBw12:Hid (Blk w12 XA11 #[.int .i64 0,.int .i64 0,.string ⟨#[]⟩,.slice none 0 0,.slice none 0 0] 25):=Lib.hid (HBWa11.out.keep hf);clear hf)
         refine hK.out _ _ (HS15.out _ HFw12.out) (fun hHw12=>?_)
         clear hK K
         try simp only [Act.put,fl]
         refine tk (i:=19) (v:=?_) rfl ⟨by rfl,?_⟩ hHw12 ?_
         rotate_left
         ·(intro w' hSw;(try dsimp only at hSw);go_simp;try with_reducible rfl)
         try simp only [Act.put,fl]
         refine wpAnyH_ready (rs:=[20]) (by kernel_rfl) (by simp) ?_
         refine AllReadyH.cons rfl (fun K hK=>?_) AllReadyH.nil
         go_simp
         refine hK.out _ _ (HS15.out _ ((HFw12.out).alloc _)) (fun hHWb13=>?_)
         clear hK K
         try simp only [Act.put,fl]
         have hbs:Blk (w12.alloc (.cells #[.string ⟨#[114,101,115,117,108,116,79,102]⟩,.int .i64 4,.int .i64 0,.string ⟨ia.toArray⟩,.slice none 0 0,.slice none 0 0,.string ⟨#[110,97,109,101]⟩,.int .i64 4,.int .i64 0,.string ⟨ib.toArray⟩,.slice none 0 0,.slice none 0 0,.string ⟨#[112,97,116,104]⟩,.int .i64 4,.int .i64 0,.string PB,.slice none 0 0,.slice none 0 0] 39)) w12.heap.size #[.string ⟨#[114,101,115,117,108,116,79,102]⟩,.int .i64 4,.int .i64 0,.string ⟨ia.toArray⟩,.slice none 0 0,.slice none 0 0,.string ⟨#[110,97,109,101]⟩,.int .i64 4,.int .i64 0,.string ⟨ib.toArray⟩,.slice none 0 0,.slice none 0 0,.string ⟨#[112,97,116,104]⟩,.int .i64 4,.int .i64 0,.string PB,.slice none 0 0,.slice none 0 0] 39:=Blk.made w12 _ _
         have hfs:Fr W10 (w12.alloc (.cells #[.string ⟨#[114,101,115,117,108,116,79,102]⟩,.int .i64 4,.int .i64 0,.string ⟨ia.toArray⟩,.slice none 0 0,.slice none 0 0,.string ⟨#[110,97,109,101]⟩,.int .i64 4,.int .i64 0,.string ⟨ib.toArray⟩,.slice none 0 0,.slice none 0 0,.string ⟨#[112,97,116,104]⟩,.int .i64 4,.int .i64 0,.string PB,.slice none 0 0,.slice none 0 0] 39)):=(HFw12.out).alloc _
         have hxs:W10.heap.size≤w12.heap.size:=(HFw12.out).size
         have hb16:Blk (w12.alloc (.cells #[.string ⟨#[114,101,115,117,108,116,79,102]⟩,.int .i64 4,.int .i64 0,.string ⟨ia.toArray⟩,.slice none 0 0,.slice none 0 0,.string ⟨#[110,97,109,101]⟩,.int .i64 4,.int .i64 0,.string ⟨ib.toArray⟩,.slice none 0 0,.slice none 0 0,.string ⟨#[112,97,116,104]⟩,.int .i64 4,.int .i64 0,.string PB,.slice none 0 0,.slice none 0 0] 39)) XA11 #[.int .i64 0,.int .i64 0,.string ⟨#[]⟩,.slice none 0 0,.slice none 0 0] 25:=HBw12.out.keep ((Fr.refl w12).alloc _)
         have hne:XA11≠w12.heap.size:=Nat.ne_of_lt (HBw12.out).lt
         generalize (w12.alloc (.cells #[.string ⟨#[114,101,115,117,108,116,79,102]⟩,.int .i64 4,.int .i64 0,.string ⟨ia.toArray⟩,.slice none 0 0,.slice none 0 0,.string ⟨#[110,97,109,101]⟩,.int .i64 4,.int .i64 0,.string ⟨ib.toArray⟩,.slice none 0 0,.slice none 0 0,.string ⟨#[112,97,116,104]⟩,.int .i64 4,.int .i64 0,.string PB,.slice none 0 0,.slice none 0 0] 39))=Wb13 at hbs hfs hHWb13 hb16 ⊢
         generalize w12.heap.size=XS13 at hbs hxs hne ⊢
         have HBSWb13:=Lib.hid hbs
         have HFWb13:=Lib.hid hfs
         have HBWb13:=Lib.hid hb16
         have HNEWb13:=Lib.hid hne
         clear hbs hfs hxs hb16 hne
         refine tk (i:=21) (v:=?_) rfl ⟨by rfl,?_⟩ hHWb13 ?_
         rotate_left
         ·(intro w' hSw;(try dsimp only at hSw);go_simp;try with_reducible rfl)
         try simp only [Act.put,fl]
         obtain ⟨⟨z0,z1,z2,z3,z4⟩,zf0,zf1,zf2,zf3,zf4⟩:=box5 HBWb13.out
         refine wpAnyH_ready (rs:=[23]) (by kernel_rfl) (by simp) ?_
         refine AllReadyH.cons rfl (fun K hK=>?_) AllReadyH.nil
         go_simp
         refine hK.out _ _ (HS15.out _ (st5_fr (HFWb13.out) HXWa11.out _ _ _ _ _)) (fun hHz=>?_)
         clear hK K
         try simp only [Act.put,fl]
         refine wpAnyH_done (by kernel_rfl) ?_ _
         have hb9:Blk (((((Wb13.setCell ⟨XA11,0,none⟩ (.int .i64 6)).setCell ⟨XA11,1,none⟩ (.int .i64 0)).setCell ⟨XA11,2,none⟩ (.string ⟨#[]⟩)).setCell ⟨XA11,3,none⟩ (.slice none 0 0)).setCell ⟨XA11,4,none⟩ (.slice (some ⟨XS13,0,none⟩) 3 3)) XA11 #[.int .i64 6,.int .i64 0,.string ⟨#[]⟩,.slice none 0 0,.slice (some ⟨XS13,0,none⟩) 3 3] 25:=set5 HBWb13.out
         have hs9:Blk (((((Wb13.setCell ⟨XA11,0,none⟩ (.int .i64 6)).setCell ⟨XA11,1,none⟩ (.int .i64 0)).setCell ⟨XA11,2,none⟩ (.string ⟨#[]⟩)).setCell ⟨XA11,3,none⟩ (.slice none 0 0)).setCell ⟨XA11,4,none⟩ (.slice (some ⟨XS13,0,none⟩) 3 3)) XS13 #[.string ⟨#[114,101,115,117,108,116,79,102]⟩,.int .i64 4,.int .i64 0,.string ⟨ia.toArray⟩,.slice none 0 0,.slice none 0 0,.string ⟨#[110,97,109,101]⟩,.int .i64 4,.int .i64 0,.string ⟨ib.toArray⟩,.slice none 0 0,.slice none 0 0,.string ⟨#[112,97,116,104]⟩,.int .i64 4,.int .i64 0,.string PB,.slice none 0 0,.slice none 0 0] 39:=(HBSWb13.out).frx (st5_frx Wb13 XA11 _ _ _ _ _) (Ne.symm HNEWb13.out)
         have hf9:Fr W10 (((((Wb13.setCell ⟨XA11,0,none⟩ (.int .i64 6)).setCell ⟨XA11,1,none⟩ (.int .i64 0)).setCell ⟨XA11,2,none⟩ (.string ⟨#[]⟩)).setCell ⟨XA11,3,none⟩ (.slice none 0 0)).setCell ⟨XA11,4,none⟩ (.slice (some ⟨XS13,0,none⟩) 3 3)):=st5_fr (HFWb13.out) HXWa11.out _ _ _ _ _
         clear z0 z1 z2 z3 z4 zf0 zf1 zf2 zf3 zf4
         generalize (((((Wb13.setCell ⟨XA11,0,none⟩ (.int .i64 6)).setCell ⟨XA11,1,none⟩ (.int .i64 0)).setCell ⟨XA11,2,none⟩ (.string ⟨#[]⟩)).setCell ⟨XA11,3,none⟩ (.slice none 0 0)).setCell ⟨XA11,4,none⟩ (.slice (some ⟨XS13,0,none⟩) 3 3))=W9 at hb9 hf9 hs9 ⊢
         have HB9:=Lib.hid hb9
         have HF9:=Lib.hid hf9
         have HS9:=Lib.hid hs9
         clear hb9 hf9 hs9
         repeat (first | go_skip | go_step)
         go_meet
         exact ⟨XA11,XS13,rfl,HB9,HS9,HF9⟩
       ·go_simp
        refine hK.out _ _ (HS15.out _ ((HFw1.out).alloc _)) (fun hHa14=>?_)
        clear hK K
        try simp only [Act.put,fl]
        have hba:Blk (w1.alloc (.cells #[.int .i64 0,.int .i64 0,.string ⟨#[]⟩,.slice none 0 0,.slice none 0 0] 25)) w1.heap.size #[.int .i64 0,.int .i64 0,.string ⟨#[]⟩,.slice none 0 0,.slice none 0 0] 25:=Blk.made w1 _ _
        have hfa:Fr W10 (w1.alloc (.cells #[.int .i64 0,.int .i64 0,.string ⟨#[]⟩,.slice none 0 0,.slice none 0 0] 25)):=(HFw1.out).alloc _
        have hxa:W10.heap.size≤w1.heap.size:=(HFw1.out).size
        generalize (w1.alloc (.cells #[.int .i64 0,.int .i64 0,.string ⟨#[]⟩,.slice none 0 0,.slice none 0 0] 25))=Wa15 at hba hfa hHa14 ⊢
        generalize w1.heap.size=XA15 at hba hxa ⊢
        have HBWa15:=Lib.hid hba
        have HFWa15:=Lib.hid hfa
        have HXWa15:=Lib.hid hxa
        clear hba hfa hxa
        refine wpAnyH_ready (rs:=[14]) (by kernel_rfl) (by simp) ?_
        refine AllReadyH.cons rfl (fun K hK=>?_) AllReadyH.nil
        go_simp
        (go_at_call 17;refine (HTX.out _ _).mono ?_;rintro e w16 ⟨rfl,hf⟩;have HFw16:Hid (Fr W10 w16):=Lib.hid ((HFWa15.out).trans hf);have HBw16:Hid (Blk w16 XA15 #[.int .i64 0,.int .i64 0,.string ⟨#[]⟩,.slice none 0 0,.slice none 0 0] 25):=Lib.hid (HBWa15.out.keep hf);clear hf)
        refine hK.out _ _ (HS15.out _ HFw16.out) (fun hHw16=>?_)
        clear hK K
        try simp only [Act.put,fl]
        refine tk (i:=15) (v:=?_) rfl ⟨by rfl,?_⟩ hHw16 ?_
        rotate_left
        ·(intro w' hSw;(try dsimp only at hSw);go_simp;try with_reducible rfl)
        try simp only [Act.put,fl]
        refine wpAnyH_ready (rs:=[18]) (by kernel_rfl) (by simp) ?_
        refine AllReadyH.cons rfl (fun K hK=>?_) AllReadyH.nil
        go_simp
        (go_at_call 17;refine (HTX.out _ _).mono ?_;rintro e w17 ⟨rfl,hf⟩;have HFw17:Hid (Fr W10 w17):=Lib.hid ((HFw16.out).trans hf);have HBw17:Hid (Blk w17 XA15 #[.int .i64 0,.int .i64 0,.string ⟨#[]⟩,.slice none 0 0,.slice none 0 0] 25):=Lib.hid (HBw16.out.keep hf);clear hf)
        refine hK.out _ _ (HS15.out _ HFw17.out) (fun hHw17=>?_)
        clear hK K
        try simp only [Act.put,fl]
        refine tk (i:=19) (v:=?_) rfl ⟨by rfl,?_⟩ hHw17 ?_
        rotate_left
        ·(intro w' hSw;(try dsimp only at hSw);go_simp;try with_reducible rfl)
        try simp only [Act.put,fl]
        refine wpAnyH_ready (rs:=[20]) (by kernel_rfl) (by simp) ?_
        refine AllReadyH.cons rfl (fun K hK=>?_) AllReadyH.nil
        go_simp
        refine hK.out _ _ (HS15.out _ ((HFw17.out).alloc _)) (fun hHWb18=>?_)
        clear hK K
        try simp only [Act.put,fl]
        have hbs:Blk (w17.alloc (.cells #[.string ⟨#[114,101,115,117,108,116,79,102]⟩,.int .i64 4,.int .i64 0,.string ⟨ia.toArray⟩,.slice none 0 0,.slice none 0 0,.string ⟨#[110,97,109,101]⟩,.int .i64 4,.int .i64 0,.string ⟨ib.toArray⟩,.slice none 0 0,.slice none 0 0,.string ⟨#[112,97,116,104]⟩,.int .i64 4,.int .i64 0,.string PB,.slice none 0 0,.slice none 0 0] 39)) w17.heap.size #[.string ⟨#[114,101,115,117,108,116,79,102]⟩,.int .i64 4,.int .i64 0,.string ⟨ia.toArray⟩,.slice none 0 0,.slice none 0 0,.string ⟨#[110,97,109,101]⟩,.int .i64 4,.int .i64 0,.string ⟨ib.toArray⟩,.slice none 0 0,.slice none 0 0,.string ⟨#[112,97,116,104]⟩,.int .i64 4,.int .i64 0,.string PB,.slice none 0 0,.slice none 0 0] 39:=Blk.made w17 _ _
        have hfs:Fr W10 (w17.alloc (.cells #[.string ⟨#[114,101,115,117,108,116,79,102]⟩,.int .i64 4,.int .i64 0,.string ⟨ia.toArray⟩,.slice none 0 0,.slice none 0 0,.string ⟨#[110,97,109,101]⟩,.int .i64 4,.int .i64 0,.string ⟨ib.toArray⟩,.slice none 0 0,.slice none 0 0,.string ⟨#[112,97,116,104]⟩,.int .i64 4,.int .i64 0,.string PB,.slice none 0 0,.slice none 0 0] 39)):=(HFw17.out).alloc _
        have hxs:W10.heap.size≤w17.heap.size:=(HFw17.out).size
        have hb16:Blk (w17.alloc (.cells #[.string ⟨#[114,101,115,117,108,116,79,102]⟩,.int .i64 4,.int .i64 0,.string ⟨ia.toArray⟩,.slice none 0 0,.slice none 0 0,.string ⟨#[110,97,109,101]⟩,.int .i64 4,.int .i64 0,.string ⟨ib.toArray⟩,.slice none 0 0,.slice none 0 0,.string ⟨#[112,97,116,104]⟩,.int .i64 4,.int .i64 0,.string PB,.slice none 0 0,.slice none 0 0] 39)) XA15 #[.int .i64 0,.int .i64 0,.string ⟨#[]⟩,.slice none 0 0,.slice none 0 0] 25:=HBw17.out.keep ((Fr.refl w17).alloc _)
        have hne:XA15≠w17.heap.size:=Nat.ne_of_lt (HBw17.out).lt
        generalize (w17.alloc (.cells #[.string ⟨#[114,101,115,117,108,116,79,102]⟩,.int .i64 4,.int .i64 0,.string ⟨ia.toArray⟩,.slice none 0 0,.slice none 0 0,.string ⟨#[110,97,109,101]⟩,.int .i64 4,.int .i64 0,.string ⟨ib.toArray⟩,.slice none 0 0,.slice none 0 0,.string ⟨#[112,97,116,104]⟩,.int .i64 4,.int .i64 0,.string PB,.slice none 0 0,.slice none 0 0] 39))=Wb18 at hbs hfs hHWb18 hb16 ⊢
        generalize w17.heap.size=XS18 at hbs hxs hne ⊢
        have HBSWb18:=Lib.hid hbs
        have HFWb18:=Lib.hid hfs
        have HBWb18:=Lib.hid hb16
        have HNEWb18:=Lib.hid hne
        clear hbs hfs hxs hb16 hne
        refine tk (i:=21) (v:=?_) rfl ⟨by rfl,?_⟩ hHWb18 ?_
        rotate_left
        ·(intro w' hSw;(try dsimp only at hSw);go_simp;try with_reducible rfl)
        try simp only [Act.put,fl]
        obtain ⟨⟨z0,z1,z2,z3,z4⟩,zf0,zf1,zf2,zf3,zf4⟩:=box5 HBWb18.out
        refine wpAnyH_ready (rs:=[23]) (by kernel_rfl) (by simp) ?_
        refine AllReadyH.cons rfl (fun K hK=>?_) AllReadyH.nil
        go_simp
        refine hK.out _ _ (HS15.out _ (st5_fr (HFWb18.out) HXWa15.out _ _ _ _ _)) (fun hHz=>?_)
        clear hK K
        try simp only [Act.put,fl]
        refine wpAnyH_done (by kernel_rfl) ?_ _
        have hb9:Blk (((((Wb18.setCell ⟨XA15,0,none⟩ (.int .i64 6)).setCell ⟨XA15,1,none⟩ (.int .i64 0)).setCell ⟨XA15,2,none⟩ (.string ⟨#[]⟩)).setCell ⟨XA15,3,none⟩ (.slice none 0 0)).setCell ⟨XA15,4,none⟩ (.slice (some ⟨XS18,0,none⟩) 3 3)) XA15 #[.int .i64 6,.int .i64 0,.string ⟨#[]⟩,.slice none 0 0,.slice (some ⟨XS18,0,none⟩) 3 3] 25:=set5 HBWb18.out
        have hs9:Blk (((((Wb18.setCell ⟨XA15,0,none⟩ (.int .i64 6)).setCell ⟨XA15,1,none⟩ (.int .i64 0)).setCell ⟨XA15,2,none⟩ (.string ⟨#[]⟩)).setCell ⟨XA15,3,none⟩ (.slice none 0 0)).setCell ⟨XA15,4,none⟩ (.slice (some ⟨XS18,0,none⟩) 3 3)) XS18 #[.string ⟨#[114,101,115,117,108,116,79,102]⟩,.int .i64 4,.int .i64 0,.string ⟨ia.toArray⟩,.slice none 0 0,.slice none 0 0,.string ⟨#[110,97,109,101]⟩,.int .i64 4,.int .i64 0,.string ⟨ib.toArray⟩,.slice none 0 0,.slice none 0 0,.string ⟨#[112,97,116,104]⟩,.int .i64 4,.int .i64 0,.string PB,.slice none 0 0,.slice none 0 0] 39:=(HBSWb18.out).frx (st5_frx Wb18 XA15 _ _ _ _ _) (Ne.symm HNEWb18.out)
        have hf9:Fr W10 (((((Wb18.setCell ⟨XA15,0,none⟩ (.int .i64 6)).setCell ⟨XA15,1,none⟩ (.int .i64 0)).setCell ⟨XA15,2,none⟩ (.string ⟨#[]⟩)).setCell ⟨XA15,3,none⟩ (.slice none 0 0)).setCell ⟨XA15,4,none⟩ (.slice (some ⟨XS18,0,none⟩) 3 3)):=st5_fr (HFWb18.out) HXWa15.out _ _ _ _ _
        clear z0 z1 z2 z3 z4 zf0 zf1 zf2 zf3 zf4
        generalize (((((Wb18.setCell ⟨XA15,0,none⟩ (.int .i64 6)).setCell ⟨XA15,1,none⟩ (.int .i64 0)).setCell ⟨XA15,2,none⟩ (.string ⟨#[]⟩)).setCell ⟨XA15,3,none⟩ (.slice none 0 0)).setCell ⟨XA15,4,none⟩ (.slice (some ⟨XS18,0,none⟩) 3 3))=W9 at hb9 hf9 hs9 ⊢
        have HB9:=Lib.hid hb9
        have HF9:=Lib.hid hf9
        have HS9:=Lib.hid hs9
        clear hb9 hf9 hs9
        repeat (first | go_skip | go_step)
        go_meet
        exact ⟨XA15,XS18,rfl,HB9,HS9,HF9⟩
      ·go_simp
       refine hK.out _ _ (HS15.out _ (((Fr.refl W10).drew).alloc _)) (fun hHa19=>?_)
       clear hK K
       try simp only [Act.put,fl]
       refine wpAnyH_ready (rs:=[6]) (by kernel_rfl) (by simp) ?_
       refine AllReadyH.cons rfl (fun K hK=>?_) AllReadyH.nil
       go_simp
       (go_at_call 17;refine (HTX.out _ _).mono ?_;rintro e w20 ⟨rfl,hf⟩;have HFw20:Hid (Fr W10 w20):=Lib.hid (((Fr.refl W10).drew.alloc _).trans hf);have HBw20:Hid (Blk w20 W10.heap.size #[.int .i64 0,.int .i64 0,.string ⟨#[]⟩,.slice none 0 0,.slice none 0 0] 25):=Lib.hid ((Blk.made W10.drew _ _).keep hf);clear hf)
       refine hK.out _ _ (HS15.out _ HFw20.out) (fun hHw20=>?_)
       clear hK K
       try simp only [Act.put,fl]
       refine tk (i:=7) (v:=?_) rfl ⟨by rfl,?_⟩ hHw20 ?_
       rotate_left
       ·(intro w' hSw;(try dsimp only at hSw);go_simp;try with_reducible rfl)
       try simp only [Act.put,fl]
       refine wpAnyH_ready (rs:=[14]) (by kernel_rfl) (by simp) ?_
       refine AllReadyH.cons rfl (fun K hK=>?_) AllReadyH.nil
       go_simp
       (go_at_call 17;refine (HTX.out _ _).mono ?_;rintro e w21 ⟨rfl,hf⟩;have HFw21:Hid (Fr W10 w21):=Lib.hid ((HFw20.out).trans hf);have HBw21:Hid (Blk w21 W10.heap.size #[.int .i64 0,.int .i64 0,.string ⟨#[]⟩,.slice none 0 0,.slice none 0 0] 25):=Lib.hid (HBw20.out.keep hf);clear hf)
       refine hK.out _ _ (HS15.out _ HFw21.out) (fun hHw21=>?_)
       clear hK K
       try simp only [Act.put,fl]
       refine tk (i:=15) (v:=?_) rfl ⟨by rfl,?_⟩ hHw21 ?_
       rotate_left
       ·(intro w' hSw;(try dsimp only at hSw);go_simp;try with_reducible rfl)
       try simp only [Act.put,fl]
       refine wpAnyH_ready (rs:=[18]) (by kernel_rfl) (by simp) ?_
       refine AllReadyH.cons rfl (fun K hK=>?_) AllReadyH.nil
       go_simp
       (go_at_call 17;refine (HTX.out _ _).mono ?_;rintro e w22 ⟨rfl,hf⟩;have HFw22:Hid (Fr W10 w22):=Lib.hid ((HFw21.out).trans hf);have HBw22:Hid (Blk w22 W10.heap.size #[.int .i64 0,.int .i64 0,.string ⟨#[]⟩,.slice none 0 0,.slice none 0 0] 25):=Lib.hid (HBw21.out.keep hf);clear hf)
       refine hK.out _ _ (HS15.out _ HFw22.out) (fun hHw22=>?_)
       clear hK K
       try simp only [Act.put,fl]
       refine tk (i:=19) (v:=?_) rfl ⟨by rfl,?_⟩ hHw22 ?_
       rotate_left
       ·(intro w' hSw;(try dsimp only at hSw);go_simp;try with_reducible rfl)
       try simp only [Act.put,fl]
       refine wpAnyH_ready (rs:=[20]) (by kernel_rfl) (by simp) ?_
       refine AllReadyH.cons rfl (fun K hK=>?_) AllReadyH.nil
       go_simp
       refine hK.out _ _ (HS15.out _ ((HFw22.out).alloc _)) (fun hHWb23=>?_)
       clear hK K
       try simp only [Act.put,fl]
       have hbs:Blk (w22.alloc (.cells #[.string ⟨#[114,101,115,117,108,116,79,102]⟩,.int .i64 4,.int .i64 0,.string ⟨ia.toArray⟩,.slice none 0 0,.slice none 0 0,.string ⟨#[110,97,109,101]⟩,.int .i64 4,.int .i64 0,.string ⟨ib.toArray⟩,.slice none 0 0,.slice none 0 0,.string ⟨#[112,97,116,104]⟩,.int .i64 4,.int .i64 0,.string PB,.slice none 0 0,.slice none 0 0] 39)) w22.heap.size #[.string ⟨#[114,101,115,117,108,116,79,102]⟩,.int .i64 4,.int .i64 0,.string ⟨ia.toArray⟩,.slice none 0 0,.slice none 0 0,.string ⟨#[110,97,109,101]⟩,.int .i64 4,.int .i64 0,.string ⟨ib.toArray⟩,.slice none 0 0,.slice none 0 0,.string ⟨#[112,97,116,104]⟩,.int .i64 4,.int .i64 0,.string PB,.slice none 0 0,.slice none 0 0] 39:=Blk.made w22 _ _
       have hfs:Fr W10 (w22.alloc (.cells #[.string ⟨#[114,101,115,117,108,116,79,102]⟩,.int .i64 4,.int .i64 0,.string ⟨ia.toArray⟩,.slice none 0 0,.slice none 0 0,.string ⟨#[110,97,109,101]⟩,.int .i64 4,.int .i64 0,.string ⟨ib.toArray⟩,.slice none 0 0,.slice none 0 0,.string ⟨#[112,97,116,104]⟩,.int .i64 4,.int .i64 0,.string PB,.slice none 0 0,.slice none 0 0] 39)):=(HFw22.out).alloc _
       have hxs:W10.heap.size≤w22.heap.size:=(HFw22.out).size
       have hb16:Blk (w22.alloc (.cells #[.string ⟨#[114,101,115,117,108,116,79,102]⟩,.int .i64 4,.int .i64 0,.string ⟨ia.toArray⟩,.slice none 0 0,.slice none 0 0,.string ⟨#[110,97,109,101]⟩,.int .i64 4,.int .i64 0,.string ⟨ib.toArray⟩,.slice none 0 0,.slice none 0 0,.string ⟨#[112,97,116,104]⟩,.int .i64 4,.int .i64 0,.string PB,.slice none 0 0,.slice none 0 0] 39)) W10.heap.size #[.int .i64 0,.int .i64 0,.string ⟨#[]⟩,.slice none 0 0,.slice none 0 0] 25:=HBw22.out.keep ((Fr.refl w22).alloc _)
       have hne:W10.heap.size≠w22.heap.size:=Nat.ne_of_lt (HBw22.out).lt
       generalize (w22.alloc (.cells #[.string ⟨#[114,101,115,117,108,116,79,102]⟩,.int .i64 4,.int .i64 0,.string ⟨ia.toArray⟩,.slice none 0 0,.slice none 0 0,.string ⟨#[110,97,109,101]⟩,.int .i64 4,.int .i64 0,.string ⟨ib.toArray⟩,.slice none 0 0,.slice none 0 0,.string ⟨#[112,97,116,104]⟩,.int .i64 4,.int .i64 0,.string PB,.slice none 0 0,.slice none 0 0] 39))=Wb23 at hbs hfs hHWb23 hb16 ⊢
       generalize w22.heap.size=XS23 at hbs hxs hne ⊢
       have HBSWb23:=Lib.hid hbs
       have HFWb23:=Lib.hid hfs
       have HBWb23:=Lib.hid hb16
       have HNEWb23:=Lib.hid hne
       clear hbs hfs hxs hb16 hne
       refine tk (i:=21) (v:=?_) rfl ⟨by rfl,?_⟩ hHWb23 ?_
       rotate_left
       ·(intro w' hSw;(try dsimp only at hSw);go_simp;try with_reducible rfl)
       try simp only [Act.put,fl]
       obtain ⟨⟨z0,z1,z2,z3,z4⟩,zf0,zf1,zf2,zf3,zf4⟩:=box5 HBWb23.out
       refine wpAnyH_ready (rs:=[23]) (by kernel_rfl) (by simp) ?_
       refine AllReadyH.cons rfl (fun K hK=>?_) AllReadyH.nil
       go_simp
       refine hK.out _ _ (HS15.out _ (st5_fr (HFWb23.out) (Nat.le_refl _) _ _ _ _ _)) (fun hHz=>?_)
       clear hK K
       try simp only [Act.put,fl]
       refine wpAnyH_done (by kernel_rfl) ?_ _
       have hb9:Blk (((((Wb23.setCell ⟨W10.heap.size,0,none⟩ (.int .i64 6)).setCell ⟨W10.heap.size,1,none⟩ (.int .i64 0)).setCell ⟨W10.heap.size,2,none⟩ (.string ⟨#[]⟩)).setCell ⟨W10.heap.size,3,none⟩ (.slice none 0 0)).setCell ⟨W10.heap.size,4,none⟩ (.slice (some ⟨XS23,0,none⟩) 3 3)) W10.heap.size #[.int .i64 6,.int .i64 0,.string ⟨#[]⟩,.slice none 0 0,.slice (some ⟨XS23,0,none⟩) 3 3] 25:=set5 HBWb23.out
       have hs9:Blk (((((Wb23.setCell ⟨W10.heap.size,0,none⟩ (.int .i64 6)).setCell ⟨W10.heap.size,1,none⟩ (.int .i64 0)).setCell ⟨W10.heap.size,2,none⟩ (.string ⟨#[]⟩)).setCell ⟨W10.heap.size,3,none⟩ (.slice none 0 0)).setCell ⟨W10.heap.size,4,none⟩ (.slice (some ⟨XS23,0,none⟩) 3 3)) XS23 #[.string ⟨#[114,101,115,117,108,116,79,102]⟩,.int .i64 4,.int .i64 0,.string ⟨ia.toArray⟩,.slice none 0 0,.slice none 0 0,.string ⟨#[110,97,109,101]⟩,.int .i64 4,.int .i64 0,.string ⟨ib.toArray⟩,.slice none 0 0,.slice none 0 0,.string ⟨#[112,97,116,104]⟩,.int .i64 4,.int .i64 0,.string PB,.slice none 0 0,.slice none 0 0] 39:=(HBSWb23.out).frx (st5_frx Wb23 W10.heap.size _ _ _ _ _) (Ne.symm HNEWb23.out)
       have hf9:Fr W10 (((((Wb23.setCell ⟨W10.heap.size,0,none⟩ (.int .i64 6)).setCell ⟨W10.heap.size,1,none⟩ (.int .i64 0)).setCell ⟨W10.heap.size,2,none⟩ (.string ⟨#[]⟩)).setCell ⟨W10.heap.size,3,none⟩ (.slice none 0 0)).setCell ⟨W10.heap.size,4,none⟩ (.slice (some ⟨XS23,0,none⟩) 3 3)):=st5_fr (HFWb23.out) (Nat.le_refl _) _ _ _ _ _
       clear z0 z1 z2 z3 z4 zf0 zf1 zf2 zf3 zf4
       generalize (((((Wb23.setCell ⟨W10.heap.size,0,none⟩ (.int .i64 6)).setCell ⟨W10.heap.size,1,none⟩ (.int .i64 0)).setCell ⟨W10.heap.size,2,none⟩ (.string ⟨#[]⟩)).setCell ⟨W10.heap.size,3,none⟩ (.slice none 0 0)).setCell ⟨W10.heap.size,4,none⟩ (.slice (some ⟨XS23,0,none⟩) 3 3))=W9 at hb9 hf9 hs9 ⊢
       have HB9:=Lib.hid hb9
       have HF9:=Lib.hid hf9
       have HS9:=Lib.hid hs9
       clear hb9 hf9 hs9
       repeat (first | go_skip | go_step)
       go_meet
       exact ⟨W10.heap.size,XS23,rfl,HB9,HS9,HF9⟩
     obtain ⟨X16,XS,rfl,hB16,hBS,hF16⟩:=hcut
     obtain ⟨W11,hW11⟩:∃ W,W=wc:=⟨wc,rfl⟩
     subst hW11
     have HF11:Hid (Fr w W11):=Lib.hid (HFT.out.trans hF16.out)
     have hlia:ia.length≤1048576:=by rw [← HIA.out];exact (HN.out _ (List.getElem_mem hkl)).2.2.1
     have hlib:ib.length≤1048576:=by rw [← HIB.out];exact (HN.out _ (List.getElem_mem hkl)).2.1
     have HIR:Hid (∀ W,Fr W11 W→InV W (Lo W.heap.size) (Rf.refV ia ib pt) (.agg #[.int .i64 6,.int .i64 0,.string ⟨#[]⟩,.slice none 0 0,.slice (some ⟨XS,0,none⟩) 3 3])):=Lib.hid (fun W hW=>refV_in ia ib pt PB HPB.out (Nat.le_trans hlia (by decide)) (Nat.le_trans hlib (by decide)) (Nat.le_trans HPT.out (by decide)) (hBS.out.keep hW))
     have HLI:Hid (ib.length+ia.length≤1048576):=Lib.hid (by rw [← HIA.out,← HIB.out];exact (HN.out _ (List.getElem_mem hkl)).2.2.2)
     clear hlia hlib HS15
     obtain ⟨hn,hhn⟩:∃ q,(35::nm:List UInt8)=q:=⟨_,rfl⟩
     have hU:(⟨#[35]⟩:ByteArray)++NB=⟨hn.toArray⟩:=by rw [← HNB.out,ba_app,hhn]
     obtain ⟨rf,hrf⟩:∃ q,Rf.refV ia ib pt=q:=⟨_,rfl⟩
     have HWM:Hid (Pt.withM v.ms hn rf=Rf.withR v.ms nm rf):=Lib.hid (by rw [← hhn];exact Rf.withM_new (Rf.hash_new HPL.out))
     have HWL:Hid ((Rf.withR v.ms nm rf).length=v.ms.length+1):=Lib.hid (by unfold Rf.withR;simp)
     have HRF:=Lib.hid hrf
     have HHN:Hid (hn.length≤140737488355328):=Lib.hid (by rw [← hhn];have:=HNL.out;simp;omega)
     have HWI:Hid (∀ W,Fr W11 W→Calls Tryz.prog 18 #[.agg #[.int .i64 v.kd,.int .i64 v.nm,.string ⟨v.tx.toArray⟩,.slice B v.ls.length d,.slice B' v.ms.length d'],.string ⟨hn.toArray⟩,.agg #[.int .i64 6,.int .i64 0,.string ⟨#[]⟩,.slice none 0 0,.slice (some ⟨XS,0,none⟩) 3 3]] W fun e w'=>∃ (D:Option Addr) (g:Nat),e=.returned (.agg #[.int .i64 6,.int .i64 0,.string ⟨#[]⟩,.slice none 0 0,.slice D (v.ms.length+1) g])∧InV w' (Lo w'.heap.size) (JV.mapV (Rf.withR v.ms nm rf)) (.agg #[.int .i64 6,.int .i64 0,.string ⟨#[]⟩,.slice none 0 0,.slice D (v.ms.length+1) g])∧Fr W w'):=Lib.hid (fun W hW=>by
      have hr:=HIR.out W hW
      have h:=twith_is v (Rf.refV ia ib pt) B d B' d' none 0 (some ⟨XS,0,none⟩) 3 hn W W.heap.size (Nat.le_refl _) (HKV.out W (HF11.out.trans hW)) hr (by omega) HHN.out
      rw [if_pos H6.out,hrf,HWM.out,HWL.out] at h
      subst hrf
      refine h.mono ?_
      rintro e w' ⟨D,g,rfl,hi,hf⟩
      exact ⟨D,g,rfl,hi.more (fun b hb=>by rcases hb with hb | hb;exact Nat.lt_of_lt_of_le hb hf.size;exact hb.2),hf⟩)
     clear hhn hrf
     obtain ⟨⟨x0,x1,x2,x3,x4⟩,_⟩:=box5 (HX10.out.keep hF16.out)
     obtain ⟨⟨y0,y1,y2,y3,y4⟩,_⟩:=box5 hB16.out
     go_upto_region 17 with (go_at_call 18;refine (HWI.out _ (Fr.refl _)).mono ?_;rintro e w12 ⟨D2,g2,rfl,hi,hf⟩;have HI2:=Lib.hid hi;have HF12:=Lib.hid hf;clear hi hf)
     clear x0 x1 x2 x3 x4 y0 y1 y2 y3 y4 hU
     have hb12:Blk (w12.alloc (.cells #[.int .i64 6,.int .i64 0,.string ⟨#[]⟩,.slice none 0 0,.slice D2 (v.ms.length+1) g2] 25)) w12.heap.size #[.int .i64 6,.int .i64 0,.string ⟨#[]⟩,.slice none 0 0,.slice D2 (v.ms.length+1) g2] 25:=Blk.made w12 _ _
     have hf12:Fr W11 (w12.alloc (.cells #[.int .i64 6,.int .i64 0,.string ⟨#[]⟩,.slice none 0 0,.slice D2 (v.ms.length+1) g2] 25)):=HF12.out.alloc _
     have hi12:InV (w12.alloc (.cells #[.int .i64 6,.int .i64 0,.string ⟨#[]⟩,.slice none 0 0,.slice D2 (v.ms.length+1) g2] 25)) (Lo (w12.alloc (.cells #[.int .i64 6,.int .i64 0,.string ⟨#[]⟩,.slice none 0 0,.slice D2 (v.ms.length+1) g2] 25)).heap.size) (JV.mapV (Rf.withR v.ms nm rf)) (.agg #[.int .i64 6,.int .i64 0,.string ⟨#[]⟩,.slice none 0 0,.slice D2 (v.ms.length+1) g2]):=(HI2.out.keep (Nat.le_refl _) ((Fr.refl w12).alloc _)).lo ((Fr.refl w12).alloc _).size
     generalize (w12.alloc (.cells #[.int .i64 6,.int .i64 0,.string ⟨#[]⟩,.slice none 0 0,.slice D2 (v.ms.length+1) g2] 25))=W12 at hb12 hf12 hi12 ⊢
     generalize w12.heap.size=X17 at hb12 ⊢
     have HB12:=Lib.hid hb12
     have HF12W:Hid (Fr w W12):=Lib.hid (HF11.out.trans hf12)
     have HFX12:Hid (Fr W10 W12):=Lib.hid (hF16.out.trans hf12)
     have HIW:Hid (∀ W,Fr W12 W→InV W (Lo W.heap.size) (JV.mapV (Rf.withR v.ms nm rf)) (.agg #[.int .i64 6,.int .i64 0,.string ⟨#[]⟩,.slice none 0 0,.slice D2 (v.ms.length+1) g2])):=Lib.hid (fun W hW=>(hi12.keep (Nat.le_refl _) hW).lo hW.size)
     have HBW:Hid (JV.bulk (JV.mapV (Rf.withR v.ms nm rf))≤4194304):=Lib.hid (by
      have h1:=Rf.bulk_eq v
      have h2:=HBV.out
      have h3:=HNL.out
      have h4:=HLI.out
      have h5:=HPT.out
      have h6:JV.bulkM (Rf.withR v.ms nm rf)=JV.bulkM v.ms+(1+(nm.length+1)+JV.bulk rf):=by
       unfold Rf.withR
       rw [Rf.bulkM_app,JV.bulkM_cons];rfl
      have h7:JV.bulk (JV.mapV (Rf.withR v.ms nm rf))=3+JV.bulkM (Rf.withR v.ms nm rf):=by
       unfold JV.mapV;rw [Rf.big_mk];show 3+0+0+_=_;omega
      have h8:JV.bulk rf=31+ia.length+ib.length+pt.length:=by rw [← HRF.out];exact Rf.refV_bulk _ _ _
      omega)
     clear hb12 hf12 hi12 HI2 HF12 HWI HIR
     obtain ⟨i0,hi0,hmin,his⟩:∃ i,∃ hi:i<l.length,(∀ y (hy:y<l.length),y<i→l[y].2≠ia)∧l[i].2=ia:=by
      rcases Rf.first l ia with h | h
      ·exact absurd HIA.out (h k hkl)
      ·exact h
     obtain ⟨b1,o1,Px,px,Qx,qx,hA1,hbx,cnm,hvc,cid,hux⟩:=(HCZ.out.keep (Nat.le_refl _) HF12W.out) i0 hi0
     obtain ⟨rfl,rfl⟩:bk=b1∧ok=o1:=by injection hA1 with hA1;injection hA1 with h1 h2 _;exact ⟨h1,h2⟩
     obtain ⟨nm0,hnm0⟩:∃ q,l[i0].1.1=q:=⟨_,rfl⟩
     obtain ⟨x,hx⟩:∃ q,l[i0].1.2=q:=⟨_,rfl⟩
     rw [hnm0] at cnm
     rw [hx] at hvc hux
     have hxb:JV.bulk x≤1048576:=by rw [← hx];exact (HN.out _ (List.getElem_mem hi0)).1
     have hlk:Rf.look l ia=some l[i0]:=Rf.look_at hi0 hmin his
     have hll:Rf.lead rf l=if nm0=ib then (match Pt.parts pt with
       | none=>.error 240
       | some ps=>match Pt.find true ps x with
        | none=>.error 240
        | some x=>.ok x) else .error 240:=by
      rw [← HRF.out,Rf.lead_ref,hlk]
      show (if l[i0].1.1=ib then _ else _)=_
      rw [hnm0,hx];rfl
     obtain ⟨r,ec,hrl,hre⟩:∃ (r:JV) (ec:Int),((ec=0∧JV.bulk r≤1048576∧(nm0=ib→Rf.lead rf l=.ok r))∨(ec≠0∧r=JV.zeroV∧Rf.lead rf l=.error 240)) ∧ ∀ (Z:Nat) (W:World) e w',LdP Z W (Pt.parts pt) true x e w' → ∃ (C:Option Addr) (f:Nat) (C':Option Addr) (f':Nat),e=.returned (.tuple #[.agg #[.int .i64 r.kd,.int .i64 r.nm,.string ⟨r.tx.toArray⟩,.slice C r.ls.length f,.slice C' r.ms.length f'],.int .i64 ec])∧InV w' (Ne Z W w') r (vA r C f C' f')∧Fr W w':=by
      cases hps:Pt.parts pt with
      | none=>
       rw [hps] at hll
       exact ⟨JV.zeroV,80,.inr ⟨by decide,rfl,by rw [hll];split <;> rfl⟩,fun Z W e w' h=>⟨none,0,none,0,h.1,zeroV_in _ _,h.2⟩⟩
      | some ps=>
       rw [hps] at hll
       cases hfd:Pt.find true ps x with
       | none=>
        simp only [hfd] at hll
        refine ⟨JV.zeroV,81,.inr ⟨by decide,rfl,by rw [hll];split <;> rfl⟩,fun Z W e w' h=>?_⟩
        have h:FdP Z W (Pt.find true ps x) e w':=h
        rw [hfd] at h
        exact ⟨none,0,none,0,h.1,zeroV_in _ _,h.2⟩
       | some y=>
        simp only [hfd] at hll
        refine ⟨y,0,.inl ⟨rfl,Nat.le_trans (Rf.find_big _ _ _ _ hfd) hxb,fun e=>by rw [hll,if_pos e]⟩,fun Z W e w' h=>?_⟩
        have h:FdP Z W (Pt.find true ps x) e w':=h
        rw [hfd] at h
        exact h
     have hln:¬ nm0=ib→Rf.lead rf l=.error 240:=fun e=>by rw [hll,if_neg e]
     have HRE:=Lib.hid hre
     have HRL:=Lib.hid hrl
     have HLNE:=Lib.hid hln
     have HMIN:=Lib.hid hmin
     have HIS:=Lib.hid his
     have HXB:=Lib.hid hxb
     have HVC:=Lib.hid hvc
     have HUX:=Lib.hid hux
     have HCNM:=Lib.hid cnm
     have HBKW:Hid (bk<W12.heap.size):=Lib.hid (Nat.lt_of_lt_of_le hbx HF12W.out.size)
     have HRSW:Hid (∀ (W:World) (Al:Option Addr) (cl:Nat) (l2:List CallV),Fr W12 W→CsZ W W.heap.size Al l2→l2.length≤1048576→(∀ q∈l2,JV.bulk q.1.2≤1048576)→Calls Tryz.prog 14 #[.agg #[.int .i64 6,.int .i64 0,.string ⟨#[]⟩,.slice none 0 0,.slice D2 (v.ms.length+1) g2],.slice Al l2.length cl] W (ReP W (Rf.resolve (JV.mapV (Rf.withR v.ms nm rf)) l2))):=Lib.hid (fun W Al cl l2 hW hcz h1 h2=>by
      have h:=resolve_is (JV.mapV (Rf.withR v.ms nm rf)) none 0 D2 g2 l2 Al cl W W.heap.size (Nat.le_refl _) (by
       show InV W _ _ (.agg #[_,_,_,_,.slice D2 (Rf.withR v.ms nm rf).length g2])
       rw [HWL.out];exact HIW.out W hW) hcz (Nat.le_trans h1 (by decide)) HBW.out h2 (HM.out.keep (HF12W.out.trans hW))
      have h:Calls Tryz.prog 14 #[.agg #[.int .i64 6,.int .i64 0,.string ⟨#[]⟩,.slice none 0 0,.slice D2 (Rf.withR v.ms nm rf).length g2],.slice Al l2.length cl] W _:=h
      rw [HWL.out] at h
      exact h)
     have HRP:Hid (∀ l2,Rf.resolve (JV.mapV (Rf.withR v.ms nm rf)) l2=(match Rf.lead rf l2 with
        | .error e=>.error e
        | .ok y=>if Rd.nv y > 8192∨Rf.size y > 65536∨Rf.deep y > 12 then .error 2 else .ok (JV.mapV (v.ms++[(nm,y)])))):=Lib.hid (fun l2=>Rf.resolve_ref l2 (Rf.ok_names HOK.out H6.out) HPL.out HNM.out)
     clear hlk hll hrl hre hln hmin his hxb hvc hux cnm cid hbx hnm0 hx hA1
     obtain ⟨⟨x0,x1,x2,x3,x4⟩,_⟩:=box5 HB12.out
     obtain ⟨q,code,hq,hqe⟩:∃ (q:JV) (code:Nat),((¬ (nm0=ib∧ec=0)∧code=240∧q=JV.zeroV)∨(nm0=ib∧ec=0∧(Rd.nv r > 8192∨Rf.size r > 65536∨Rf.deep r > 12)∧code=2)∨(nm0=ib∧ec=0 ∧ ¬ (Rd.nv r > 8192∨Rf.size r > 65536∨Rf.deep r > 12)∧code=0∧q=JV.mapV (v.ms++[(nm,r)]))) ∧ ∀ (W:World) e w',ReP W (Rf.resolve (JV.mapV (Rf.withR v.ms nm rf)) l) e w' → ∃ (C:Option Addr) (f:Nat) (C':Option Addr) (f':Nat),e=.returned (.tuple #[.agg #[.int .i64 q.kd,.int .i64 q.nm,.string ⟨q.tx.toArray⟩,.slice C q.ls.length f,.slice C' q.ms.length f'],.int .i64 code])∧InV w' (Lo w'.heap.size) q (vA q C f C' f')∧Fr W w':=by
      have hrp:=HRP.out l
      by_cases hg:nm0=ib∧ec=0
      ·have hld:Rf.lead rf l=.ok r:=by rcases HRL.out with h | h;exact h.2.2 hg.1;exact absurd hg.2 h.1
       rw [hld] at hrp
       by_cases hlong:Rd.nv r > 8192∨Rf.size r > 65536∨Rf.deep r > 12
       ·have hrp:Rf.resolve (JV.mapV (Rf.withR v.ms nm rf)) l=.error 2:=by rw [hrp];exact if_pos hlong
        exact ⟨JV.zeroV,2,.inr (.inl ⟨hg.1,hg.2,hlong,rfl⟩),fun W e w' h=>by rw [hrp] at h;exact ⟨none,0,none,0,h.1,zeroV_in _ _,h.2⟩⟩
       ·have hrp:Rf.resolve (JV.mapV (Rf.withR v.ms nm rf)) l=.ok (JV.mapV (v.ms++[(nm,r)])):=by rw [hrp];exact if_neg hlong
        refine ⟨JV.mapV (v.ms++[(nm,r)]),0,.inr (.inr ⟨hg.1,hg.2,hlong,rfl,rfl⟩),fun W e w' h=>?_⟩
        rw [hrp] at h
        obtain ⟨D,g,he,_,hi,_,hf⟩:=h
        exact ⟨none,0,D,g,he,hi,hf⟩
      ·have hld:Rf.lead rf l=.error 240:=by
        by_cases he:nm0=ib
        ·rcases HRL.out with h | h
         ·exact absurd ⟨he,h.1⟩ hg
         ·exact h.2.2
        ·exact HLNE.out he
       rw [hld] at hrp
       exact ⟨JV.zeroV,240,.inl ⟨hg,rfl,rfl⟩,fun W e w' h=>by rw [hrp] at h;exact ⟨none,0,none,0,h.1,zeroV_in _ _,h.2⟩⟩
     have HQ:=Lib.hid hq
     have HRS7:Hid (∀ W,Fr W12 W→Calls Tryz.prog 14 #[.agg #[.int .i64 6,.int .i64 0,.string ⟨#[]⟩,.slice none 0 0,.slice D2 (v.ms.length+1) g2],.slice (some ⟨bk,ok,none⟩) l.length c] W fun e w'=>∃ (C:Option Addr) (f:Nat) (C':Option Addr) (f':Nat),e=.returned (.tuple #[.agg #[.int .i64 q.kd,.int .i64 q.nm,.string ⟨q.tx.toArray⟩,.slice C q.ls.length f,.slice C' q.ms.length f'],.int .i64 code])∧InV w' (Lo w'.heap.size) q (vA q C f C' f')∧Fr W w'):=Lib.hid (fun W hW=>(HRSW.out W (some ⟨bk,ok,none⟩) c l hW ((HCZ.out.keep (Nat.le_refl _) (HF12W.out.trans hW)).lo (HF12W.out.trans hW).size) (by omega) (fun q hq=>(HN.out q hq).1)).mono (fun e w' h=>hqe W e w' h))
     clear hq hqe
     go_upto_region 18 with (go_at_call 14;refine (HRS7.out _ (Fr.refl _)).mono ?_;rintro e w13 ⟨Cq,fq,Cq',fq',rfl,hi,hf⟩;have HIQ:=Lib.hid hi;have HF13:=Lib.hid hf;clear hi hf)
     clear x0 x1 x2 x3 x4
     have hb13:Blk (w13.alloc (.cells #[.int .i64 q.kd,.int .i64 q.nm,.string ⟨q.tx.toArray⟩,.slice Cq q.ls.length fq,.slice Cq' q.ms.length fq'] 25)) w13.heap.size #[.int .i64 q.kd,.int .i64 q.nm,.string ⟨q.tx.toArray⟩,.slice Cq q.ls.length fq,.slice Cq' q.ms.length fq'] 25:=Blk.made w13 _ _
     have hf13:Fr W12 (w13.alloc (.cells #[.int .i64 q.kd,.int .i64 q.nm,.string ⟨q.tx.toArray⟩,.slice Cq q.ls.length fq,.slice Cq' q.ms.length fq'] 25)):=HF13.out.alloc _
     have hi13:InV (w13.alloc (.cells #[.int .i64 q.kd,.int .i64 q.nm,.string ⟨q.tx.toArray⟩,.slice Cq q.ls.length fq,.slice Cq' q.ms.length fq'] 25)) (Lo (w13.alloc (.cells #[.int .i64 q.kd,.int .i64 q.nm,.string ⟨q.tx.toArray⟩,.slice Cq q.ls.length fq,.slice Cq' q.ms.length fq'] 25)).heap.size) q (vA q Cq fq Cq' fq'):=(HIQ.out.keep (Nat.le_refl _) ((Fr.refl w13).alloc _)).lo ((Fr.refl w13).alloc _).size
     generalize (w13.alloc (.cells #[.int .i64 q.kd,.int .i64 q.nm,.string ⟨q.tx.toArray⟩,.slice Cq q.ls.length fq,.slice Cq' q.ms.length fq'] 25))=W13 at hb13 hf13 hi13 ⊢
     generalize w13.heap.size=X18 at hb13 ⊢
     have HB13:=Lib.hid hb13
     have HF13W:=Lib.hid hf13
     have HIQ13:=Lib.hid hi13
     clear hb13 hf13 hi13 HIQ HF13 HRS7
     have hi0':(i0:Int)<(l.length:Int):=by omega
     go_upto_region 19 with fail
     go_loopw [20] (fun a wr=>∃ j:Nat,j≤i0∧a=.int .i64 j∧Hid (Fr W13 wr)) (fun a _=>i0+1 - (intOf a).toNat)
     case atStart=>exact ⟨0,by omega,rfl,Lib.hid (Fr.refl _)⟩
     case round=>
      obtain ⟨j,hj,rfl,hF⟩:=hrel
      have hjl:j<l.length:=by omega
      have hjl':(j:Int)<(l.length:Int):=by omega
      have hj0:(0:Int)≤(j:Int):=by omega
      have hfw:Fr w wr:=(HF12W.out.trans HF13W.out).trans hF.out
      obtain ⟨b2,o2,_,_,_,_,hA2,hb2,_,_,cj,_⟩:=(HCZ.out.keep (Nat.le_refl _) hfw) j hjl
      obtain ⟨rfl,rfl⟩:bk=b2∧ok=o2:=by injection hA2 with hA2;injection hA2 with h1 h2 _;exact ⟨h1,h2⟩
      obtain ⟨b3,o3,_,_,_,_,hA3,hb3,ckn,_,ckk,_⟩:=(HCZ.out.keep (Nat.le_refl _) hfw) k hkl
      obtain ⟨rfl,rfl⟩:bk=b3∧ok=o3:=by injection hA3 with hA3;injection hA3 with h1 h2 _;exact ⟨h1,h2⟩
      rw [HIA.out] at ckk
      rw [HIB.out] at ckn
      obtain ⟨ij,hij⟩:∃ q,l[j].2=q:=⟨_,rfl⟩
      rw [hij] at cj
      have HHF:=Lib.hid hfw
      have HCKN:=Lib.hid ckn
      clear hA2 hA3 hb2 hb3 hfw ckn
      by_cases hlt:j<i0
      ·have hne:ij≠ia:=by rw [← hij];exact HMIN.out j hjl hlt
       have c1:((⟨ij.toArray⟩:ByteArray).toList == (⟨ia.toArray⟩:ByteArray).toList)=false:=by rw [bl_beq'];simpa using hne
       have c2:(ij == ia)=false:=by simpa using hne
       have c3:(ij != ia)=true:=by simpa using hne
       have c4:((⟨ij.toArray⟩:ByteArray).toList != (⟨ia.toArray⟩:ByteArray).toList)=true:=by rw [bne,bl_beq'];simpa using hne
       clear hne hij
       go_upto_region 19 with fail
       go_quiet (fail)
       go_wp2_with fail
       exact ⟨⟨j+1,by omega,by go_num,Lib.hid (hF.out.drewN _)⟩,by simp [intOf];omega⟩
      ·obtain rfl:j=i0:=by omega
       have hee:ij=ia:=by rw [← hij];exact HIS.out
       have c1:((⟨ij.toArray⟩:ByteArray).toList == (⟨ia.toArray⟩:ByteArray).toList)=true:=by rw [bl_beq'];simpa using hee
       have c2:(ij == ia)=true:=by simpa using hee
       have c3:(ij != ia)=false:=by simpa using hee
       have c4:((⟨ij.toArray⟩:ByteArray).toList != (⟨ia.toArray⟩:ByteArray).toList)=false:=by rw [bne,bl_beq'];simpa using hee
       clear hee hij
       go_upto_region 19 with fail
       go_quiet (fail)
       go_upto_region 21 with fail
       clear cj ckk c1 c2 c3 c4
       have HFQ:Hid (Fr W13 (wr.drewN nq)):=Lib.hid (hF.out.drewN nq)
       generalize (wr.drewN nq)=W14 at HFQ ⊢
       have HFW14:Hid (Fr w W14):=Lib.hid ((HF12W.out.trans HF13W.out).trans HFQ.out)
       have HVX:Hid (VC W14 bk (ok+j*7+1) x Px px Qx qx):=Lib.hid (HVC.out.keep (fun o=>(HF13W.out.trans HFQ.out).cell HBKW.out))
       obtain ⟨k1,k2,k3,k4,k5⟩:=HVX.out
       have HEA:Hid (∀ W,Fr W14 W→Calls Tryz.prog 19 #[.agg #[.int .i64 x.kd,.int .i64 x.nm,.string ⟨x.tx.toArray⟩,.slice Px x.ls.length px,.slice Qx x.ms.length qx],.string PB] W fun e w'=>∃ (C:Option Addr) (f:Nat) (C':Option Addr) (f':Nat),e=.returned (.tuple #[.agg #[.int .i64 r.kd,.int .i64 r.nm,.string ⟨r.tx.toArray⟩,.slice C r.ls.length f,.slice C' r.ms.length f'],.int .i64 ec])∧InV w' (Lo w'.heap.size) r (vA r C f C' f')∧Fr W w'):=Lib.hid (fun W hW=>by
        have h:=peach_is x Px px Qx qx PB W w.heap.size (HFW14.out.trans hW).size (HUX.out.keep HF12W.out.size ((HF13W.out.trans HFQ.out).trans hW)) (Nat.le_trans (Rf.nv_big _) HXB.out) (by rw [← HPB.out,ba_size];have:=HPT.out;omega) (HM.out.keep (HFW14.out.trans hW))
        rw [show PB.data.toList=pt by rw [← HPB.out]] at h
        refine h.mono (fun e w' h2=>?_)
        obtain ⟨C,f,C',f',he,hi,hf⟩:=HRE.out _ W e w' h2
        exact ⟨C,f,C',f',he,hi.more (fun b hb=>by rcases hb with hb | hb;exact Nat.lt_of_lt_of_le hb ((HFW14.out.trans hW).trans hf).size;exact hb.2),hf⟩)
       go_upto_region 22 with (go_at_call 19;refine (HEA.out _ (Fr.refl _)).mono ?_;rintro e w15 ⟨C,f,C',f',rfl,hi,hf⟩;have HI15:=Lib.hid hi;have HF15:=Lib.hid hf;clear hi hf)
       clear k1 k2 k3 k4 k5 HEA HVX
       have hb15:Blk (w15.alloc (.cells #[.int .i64 r.kd,.int .i64 r.nm,.string ⟨r.tx.toArray⟩,.slice C r.ls.length f,.slice C' r.ms.length f'] 25)) w15.heap.size #[.int .i64 r.kd,.int .i64 r.nm,.string ⟨r.tx.toArray⟩,.slice C r.ls.length f,.slice C' r.ms.length f'] 25:=Blk.made w15 _ _
       have hf15:Fr W14 (w15.alloc (.cells #[.int .i64 r.kd,.int .i64 r.nm,.string ⟨r.tx.toArray⟩,.slice C r.ls.length f,.slice C' r.ms.length f'] 25)):=HF15.out.alloc _
       have hi15:InV (w15.alloc (.cells #[.int .i64 r.kd,.int .i64 r.nm,.string ⟨r.tx.toArray⟩,.slice C r.ls.length f,.slice C' r.ms.length f'] 25)) (Lo (w15.alloc (.cells #[.int .i64 r.kd,.int .i64 r.nm,.string ⟨r.tx.toArray⟩,.slice C r.ls.length f,.slice C' r.ms.length f'] 25)).heap.size) r (vA r C f C' f'):=(HI15.out.keep (Nat.le_refl _) ((Fr.refl w15).alloc _)).lo ((Fr.refl w15).alloc _).size
       generalize (w15.alloc (.cells #[.int .i64 r.kd,.int .i64 r.nm,.string ⟨r.tx.toArray⟩,.slice C r.ls.length f,.slice C' r.ms.length f'] 25))=W15 at hb15 hf15 hi15 ⊢
       generalize w15.heap.size=X21 at hb15 ⊢
       have HB15:=Lib.hid hb15
       have HF15W:=Lib.hid hf15
       have HIR15:=Lib.hid hi15
       have HF135:Hid (Fr W13 W15):=Lib.hid (HFQ.out.trans hf15)
       have HFW15:Hid (Fr w W15):=Lib.hid (HFW14.out.trans hf15)
       clear hb15 hf15 hi15 HI15 HF15
       have hcn:=((HF13W.out.trans HF135.out).cell HBKW.out).trans HCNM.out
       have hck:W15.cell? ⟨bk,ok+k*7,none⟩=some (.string ⟨ib.toArray⟩):=by
        obtain ⟨b3,o3,_,_,_,_,hA3,_,ckn,_⟩:=(HCZ.out.keep (Nat.le_refl _) HFW15.out) k hkl
        obtain ⟨rfl,rfl⟩:bk=b3∧ok=o3:=by injection hA3 with hA3;injection hA3 with h1 h2 _;exact ⟨h1,h2⟩
        rw [HIB.out] at ckn
        exact ckn
       have HSMQ:Hid (q=JV.zeroV → ∀ W,Fr W13 W→Calls Tryz.prog 12 #[.agg #[.int .i64 q.kd,.int .i64 q.nm,.string ⟨q.tx.toArray⟩,.slice Cq q.ls.length fq,.slice Cq' q.ms.length fq'],.agg #[.int .i64 0,.int .i64 0,.string ⟨#[]⟩,.slice none 0 0,.slice none 0 0]] W fun e w'=>e=.returned (.bool true)∧Fr W w'):=Lib.hid (fun hz W hW=>by
        have hx:=(HIQ13.out.keep (Nat.le_refl _) hW).lo hW.size
        exact (same_is q JV.zeroV _ _).call true ⟨fun _=>hz,fun _=>rfl⟩ rfl rfl hx (zeroV_in W _))
       by_cases hnb:nm0=ib
       ·have c1:((⟨nm0.toArray⟩:ByteArray).toList == (⟨ib.toArray⟩:ByteArray).toList)=true:=by rw [bl_beq'];simpa using hnb
        have c2:(nm0 == ib)=true:=by simpa using hnb
        have c3:(nm0 != ib)=false:=by simpa using hnb
        have c4:((⟨nm0.toArray⟩:ByteArray).toList != (⟨ib.toArray⟩:ByteArray).toList)=false:=by rw [bne,bl_beq'];simpa using hnb
        have HNB2:=Lib.hid hnb
        clear hnb
        by_cases hec:ec=0
        ·have d1:(ec != 0)=false:=by rw [hec];rfl
         have HEC:=Lib.hid hec
         clear hec
         go_quiet (fail)
         obtain ⟨⟨y0,y1,y2,y3,y4⟩,_⟩:=box5 (HB15.out.keep ((Fr.refl W15).drewN nq))
         have HBR:Hid (Blk (W15.drewN nq) X21 #[.int .i64 r.kd,.int .i64 r.nm,.string ⟨r.tx.toArray⟩,.slice C r.ls.length f,.slice C' r.ms.length f'] 25):=Lib.hid (HB15.out.keep ((Fr.refl W15).drewN nq))
         have HD15:Hid (Fr W13 (W15.drewN nq)):=Lib.hid (HF135.out.drewN nq)
         have HDW:Hid (Fr w (W15.drewN nq)):=Lib.hid (HFW15.out.drewN nq)
         have HIK:Hid (∀ W,Fr (W15.drewN nq) W→InV W (Lo W.heap.size) r (vA r C f C' f')):=Lib.hid (fun W hW=>(HIR15.out.keep (Nat.le_refl _) (((Fr.refl W15).drewN nq).trans hW)).lo (((Fr.refl W15).drewN nq).trans hW).size)
         generalize (W15.drewN nq)=W16 at y0 y1 y2 y3 y4 HBR HD15 HDW HIK ⊢
         clear hcn hck c1 c2 c3 c4 d1
         have HYB:Hid (JV.bulk r≤1048576):=Lib.hid (by rcases HRL.out with h | h;exact h.2.1;exact absurd HEC.out h.1)
         have hnv:=Rf.nv_big r
         have hsz:=Rf.size_big r
         have hdp:=Rf.deep_big r
         have hyb:=HYB.out
         obtain ⟨cn,hcn⟩:∃ n,Rd.nv r=n:=⟨_,rfl⟩
         obtain ⟨cs,hcs⟩:∃ n,Rf.size r=n:=⟨_,rfl⟩
         obtain ⟨cd,hcd⟩:∃ n,Rf.deep r=n:=⟨_,rfl⟩
         have HCNS:=Lib.hid (show Rd.nv r=cn∧Rf.size r=cs∧Rf.deep r=cd from ⟨hcn,hcs,hcd⟩)
         rw [hcn] at hnv
         rw [hcs] at hsz
         rw [hcd] at hdp
         have hcn2:cn≤1048576:=by omega
         have hcs2:cs≤1048576:=by omega
         have hcd2:cd≤1048576:=by omega
         clear hyb hnv hsz hdp hcn hcs hcd
         have HCT:Hid (∀ W,Fr W16 W→Calls Tryz.prog 21 #[.agg #[.int .i64 r.kd,.int .i64 r.nm,.string ⟨r.tx.toArray⟩,.slice C r.ls.length f,.slice C' r.ms.length f']] W fun e w'=>e=.returned (.int .i64 (cn:Nat))∧Fr W w'):=Lib.hid (fun W hW=>by have h:=tcount_is r _ W (HIK.out W hW) HYB.out;rw [HCNS.out.1] at h;exact h)
         have HBT:Hid (∀ W,Fr W16 W→Calls Tryz.prog 22 #[.agg #[.int .i64 r.kd,.int .i64 r.nm,.string ⟨r.tx.toArray⟩,.slice C r.ls.length f,.slice C' r.ms.length f']] W fun e w'=>e=.returned (.int .i64 (cs:Nat))∧Fr W w'):=Lib.hid (fun W hW=>by have h:=tbytes_is r _ W (HIK.out W hW) HYB.out;rw [HCNS.out.2.1] at h;exact h)
         have HDT:Hid (∀ W,Fr W16 W→Calls Tryz.prog 20 #[.agg #[.int .i64 r.kd,.int .i64 r.nm,.string ⟨r.tx.toArray⟩,.slice C r.ls.length f,.slice C' r.ms.length f']] W fun e w'=>e=.returned (.int .i64 (cd:Nat))∧Fr W w'):=Lib.hid (fun W hW=>by have h:=tdepth_is r _ W (HIK.out W hW) HYB.out;rw [HCNS.out.2.2] at h;exact h)
         have hlong:((12<cd∨8192<cn∨65536<cs)∧(12<(cd:Int)∨((cd:Int)≤12∧8192<(cn:Int))∨((cd:Int)≤12∧(cn:Int)≤8192∧65536<(cs:Int))))∨(cd≤12∧cn≤8192∧cs≤65536):=by omega
         rcases hlong with ⟨hl0,hlong⟩ | ⟨hs1,hs2,hs3⟩
         ·have hcode:code=2:=by
           have hcn:=HCNS.out
           rcases HQ.out with h | h | h
           ·exact absurd ⟨HNB2.out,HEC.out⟩ h.1
           ·exact h.2.2.2
           ·exfalso;apply h.2.2.1;omega
          subst hcode
          clear hl0
          rcases hlong with j1 | ⟨j1,j2⟩ | ⟨j1,j2,j3⟩
          all_goals
           go_wp2_with (first
            | (go_at_call 20;refine (HDT.out _ (Fr.refl _)).mono ?_;rintro e wd ⟨rfl,hf⟩;obtain ⟨⟨y0,y1,y2,y3,y4⟩,_⟩:=box5 (HBR.out.keep hf);have HGd:=Lib.hid hf;clear hf)
            | (go_at_call 21;refine (HCT.out _ HGd.out).mono ?_;rintro e we ⟨rfl,hf⟩;obtain ⟨⟨y0,y1,y2,y3,y4⟩,_⟩:=box5 (HBR.out.keep (HGd.out.trans hf));have HGc:=Lib.hid (HGd.out.trans hf);clear hf)
            | (go_at_call 22;refine (HBT.out _ HGc.out).mono ?_;rintro e wf ⟨rfl,hf⟩;have HGb:=Lib.hid (HGc.out.trans hf);clear hf))
           go_ret
           exact ⟨rfl,by first | exact HDW.out.trans HGb.out | exact HDW.out.trans HGc.out | exact HDW.out.trans HGd.out⟩
         ·have j1:(cd:Int)≤12:=by omega
          have j2:(cn:Int)≤8192:=by omega
          have j3:(cs:Int)≤65536:=by omega
          go_upto_region 26 with (first
           | (go_at_call 20;refine (HDT.out _ (Fr.refl _)).mono ?_;rintro e wd ⟨rfl,hf⟩;obtain ⟨⟨y0,y1,y2,y3,y4⟩,_⟩:=box5 (HBR.out.keep hf);have HGd:=Lib.hid hf;clear hf)
           | (go_at_call 21;refine (HCT.out _ HGd.out).mono ?_;rintro e we ⟨rfl,hf⟩;obtain ⟨⟨y0,y1,y2,y3,y4⟩,_⟩:=box5 (HBR.out.keep (HGd.out.trans hf));have HGc:=Lib.hid (HGd.out.trans hf);clear hf)
           | (go_at_call 22;refine (HBT.out _ HGc.out).mono ?_;rintro e wf ⟨rfl,hf⟩;have HGb:=Lib.hid (HGc.out.trans hf);clear hf))
          have HGF:Hid (Fr W12 wf):=Lib.hid ((HF13W.out.trans HD15.out).trans HGb.out)
          have HGW:Hid (Fr w wf):=Lib.hid (HDW.out.trans HGb.out)
          obtain ⟨W17,hW17⟩:∃ W,W=wf:=⟨wf,rfl⟩
          subst hW17
          have HSX:Hid (∀ W,Fr W17 W→W.cell? ⟨X17,0,none⟩=some (.int .i64 6)∧W.cell? ⟨X17,1,none⟩=some (.int .i64 0)∧W.cell? ⟨X17,2,none⟩=some (.string ⟨#[]⟩)∧W.cell? ⟨X17,3,none⟩=some (.slice none 0 0)∧W.cell? ⟨X17,4,none⟩=some (.slice D2 (v.ms.length+1) g2)):=Lib.hid (fun W hW=>by obtain ⟨h,_⟩:=box5 (HB12.out.keep (HGF.out.trans hW));exact h)
          have HTK:Hid (∀ W,Fr W17 W→Calls Tryz.prog 14 #[.agg #[.int .i64 6,.int .i64 0,.string ⟨#[]⟩,.slice none 0 0,.slice D2 (v.ms.length+1) g2],.slice (some ⟨bk,ok,none⟩) j c] W fun e w'=>e=.returned (.tuple #[.agg #[.int .i64 0,.int .i64 0,.string ⟨#[]⟩,.slice none 0 0,.slice none 0 0],.int .i64 240])∧Fr W w'):=Lib.hid (fun W hW=>by
           have hlt:(l.take j).length=j:=by rw [List.length_take];omega
           have h:=HRSW.out W (some ⟨bk,ok,none⟩) c (l.take j) (HGF.out.trans hW) (((HCZ.out.keep (Nat.le_refl _) (HGW.out.trans hW)).lo (HGW.out.trans hW).size).take j) (by omega) (fun q hq=>(HN.out q (List.mem_of_mem_take hq)).1)
           rw [hlt,HRP.out,← HRF.out,Rf.lead_ref,Rf.look_take HMIN.out] at h
           exact h)
          have hjc:(j:Int)≤(c:Int):=by omega
          go_cut [23,24] from 209 to 216 (fun p e wx=>∃ X23:Nat,p=.pointer (some ⟨X23,0,none⟩)∧e=.int .i64 240∧Hid (Blk wx X23 #[.int .i64 0,.int .i64 0,.string ⟨#[]⟩,.slice none 0 0,.slice none 0 0] 25)∧Hid (Fr W17 wx))
          case first=>
           refine wp_region_held_drew (S:=(fun W=>W.cell? ⟨X17,0,none⟩=some (.int .i64 6)∧W.cell? ⟨X17,1,none⟩=some (.int .i64 0)∧W.cell? ⟨X17,2,none⟩=some (.string ⟨#[]⟩)∧W.cell? ⟨X17,3,none⟩=some (.slice none 0 0)∧W.cell? ⟨X17,4,none⟩=some (.slice D2 (v.ms.length+1) g2))) (by kernel_rfl) ?_ (fun hHeld=>?_)
           ·exact HSX.out _ (Fr.refl _).drew
           refine tk (i:=0) (v:=?_) rfl ⟨by rfl,?_⟩ hHeld ?_
           rotate_left
           ·(intro w' hSw;(try dsimp only at hSw);go_simp;try with_reducible rfl)
           try simp only [Act.put,fl]
           refine tk (i:=1) (v:=?_) rfl ⟨by rfl,?_⟩ hHeld ?_
           rotate_left
           ·(intro w' hSw;(try dsimp only at hSw);go_simp;try with_reducible rfl)
           try simp only [Act.put,fl]
           refine tk (i:=2) (v:=?_) rfl ⟨by rfl,?_⟩ hHeld ?_
           rotate_left
           ·(intro w' hSw;(try dsimp only at hSw);go_simp;try with_reducible rfl)
           try simp only [Act.put,fl]
           refine tk (i:=3) (v:=?_) rfl ⟨by rfl,?_⟩ hHeld ?_
           rotate_left
           ·(intro w' hSw;(try dsimp only at hSw);go_simp;try with_reducible rfl)
           try simp only [Act.put,fl]
           refine wpAnyH_ready (rs:=[4,8]) (by kernel_rfl) (by simp) ?_
           refine AllReadyH.cons rfl (fun K hK=>?_) (AllReadyH.cons rfl (fun K hK=>?_) AllReadyH.nil)
           ·go_simp
            (go_at_call 14;refine (HTK.out _ (Fr.refl W17).drew).mono ?_;rintro e w1 ⟨rfl,hf⟩;have HF1:Hid (Fr W17 w1):=Lib.hid ((Fr.refl W17).drew.trans hf);clear hf)
            refine hK.out _ _ (HSX.out _ HF1.out) (fun hH2=>?_)
            clear hK K
            try simp only [Act.put,fl]
            refine tk (i:=5) (v:=?_) rfl ⟨by rfl,?_⟩ hH2 ?_
            rotate_left
            ·(intro w' hSw;(try dsimp only at hSw);go_simp;try with_reducible rfl)
            try simp only [Act.put,fl]
            refine tk (i:=6) (v:=?_) rfl ⟨by rfl,?_⟩ hH2 ?_
            rotate_left
            ·(intro w' hSw;(try dsimp only at hSw);go_simp;try with_reducible rfl)
            try simp only [Act.put,fl]
            refine tk (i:=7) (v:=?_) rfl ⟨by rfl,?_⟩ hH2 ?_
            rotate_left
            ·(intro w' hSw;(try dsimp only at hSw);go_simp;try with_reducible rfl)
            try simp only [Act.put,fl]
            refine wpAnyH_ready (rs:=[8]) (by kernel_rfl) (by simp) ?_
            refine AllReadyH.cons rfl (fun K hK=>?_) AllReadyH.nil
            go_simp
            refine hK.out _ _ (HSX.out _ (HF1.out.alloc _)) (fun hH3=>?_)
            clear hK K
            try simp only [Act.put,fl]
            have HB7:Hid (Blk (w1.alloc (.cells #[.int .i64 0,.int .i64 0,.string ⟨#[]⟩,.slice none 0 0,.slice none 0 0] 25)) w1.heap.size #[.int .i64 0,.int .i64 0,.string ⟨#[]⟩,.slice none 0 0,.slice none 0 0] 25):=Lib.hid (Blk.made w1 _ _)
            have HF7:Hid (Fr W17 (w1.alloc (.cells #[.int .i64 0,.int .i64 0,.string ⟨#[]⟩,.slice none 0 0,.slice none 0 0] 25))):=Lib.hid (HF1.out.alloc _)
            have HX7:Hid (W17.heap.size≤w1.heap.size):=Lib.hid HF1.out.size
            generalize (w1.alloc (.cells #[.int .i64 0,.int .i64 0,.string ⟨#[]⟩,.slice none 0 0,.slice none 0 0] 25))=W7 at HB7 HF7 ⊢
            generalize w1.heap.size=X7 at HB7 HX7 ⊢
            obtain ⟨⟨z0,z1,z2,z3,z4⟩,zf0,zf1,zf2,zf3,zf4⟩:=box5 HB7.out
            refine wpAnyH_ready (rs:=[9]) (by kernel_rfl) (by simp) ?_
            refine AllReadyH.cons rfl (fun K hK=>?_) AllReadyH.nil
            go_simp
            refine hK.out _ _ (HSX.out _ (st5_fr HF7.out HX7.out _ _ _ _ _)) (fun hH5=>?_)
            clear hK K
            try simp only [Act.put,fl]
            refine tk (i:=10) (v:=?_) rfl ⟨by rfl,?_⟩ hH5 ?_
            rotate_left
            ·(intro w' hSw;(try dsimp only at hSw);go_simp;try with_reducible rfl)
            try simp only [Act.put,fl]
            refine wpAnyH_done (by kernel_rfl) ?_ _
            repeat (first | go_skip | go_step)
            go_meet
            exact ⟨X7,rfl,rfl,Lib.hid (set5 HB7.out),Lib.hid (st5_fr HF7.out HX7.out _ _ _ _ _)⟩
           ·go_simp
            refine hK.out _ _ (HSX.out _ ((Fr.refl W17).drew.alloc _)) (fun hH2=>?_)
            clear hK K
            try simp only [Act.put,fl]
            refine wpAnyH_ready (rs:=[4]) (by kernel_rfl) (by simp) ?_
            refine AllReadyH.cons rfl (fun K hK=>?_) AllReadyH.nil
            go_simp
            (go_at_call 14;refine (HTK.out _ ((Fr.refl W17).drew.alloc _)).mono ?_;rintro e w1 ⟨rfl,hf⟩;have HF7:Hid (Fr W17 w1):=Lib.hid (((Fr.refl W17).drew.alloc _).trans hf);have HB7:Hid (Blk w1 W17.heap.size #[.int .i64 0,.int .i64 0,.string ⟨#[]⟩,.slice none 0 0,.slice none 0 0] 25):=Lib.hid ((Blk.made W17.drew _ _).keep hf);have HX7:Hid (W17.heap.size≤W17.heap.size):=Lib.hid (Nat.le_refl _);clear hf)
            refine hK.out _ _ (HSX.out _ HF7.out) (fun hH3=>?_)
            clear hK K
            try simp only [Act.put,fl]
            refine tk (i:=5) (v:=?_) rfl ⟨by rfl,?_⟩ hH3 ?_
            rotate_left
            ·(intro w' hSw;(try dsimp only at hSw);go_simp;try with_reducible rfl)
            try simp only [Act.put,fl]
            refine tk (i:=6) (v:=?_) rfl ⟨by rfl,?_⟩ hH3 ?_
            rotate_left
            ·(intro w' hSw;(try dsimp only at hSw);go_simp;try with_reducible rfl)
            try simp only [Act.put,fl]
            refine tk (i:=7) (v:=?_) rfl ⟨by rfl,?_⟩ hH3 ?_
            rotate_left
            ·(intro w' hSw;(try dsimp only at hSw);go_simp;try with_reducible rfl)
            try simp only [Act.put,fl]
            obtain ⟨⟨z0,z1,z2,z3,z4⟩,zf0,zf1,zf2,zf3,zf4⟩:=box5 HB7.out
            refine wpAnyH_ready (rs:=[9]) (by kernel_rfl) (by simp) ?_
            refine AllReadyH.cons rfl (fun K hK=>?_) AllReadyH.nil
            go_simp
            refine hK.out _ _ (HSX.out _ (st5_fr HF7.out HX7.out _ _ _ _ _)) (fun hH5=>?_)
            clear hK K
            try simp only [Act.put,fl]
            refine tk (i:=10) (v:=?_) rfl ⟨by rfl,?_⟩ hH5 ?_
            rotate_left
            ·(intro w' hSw;(try dsimp only at hSw);go_simp;try with_reducible rfl)
            try simp only [Act.put,fl]
            refine wpAnyH_done (by kernel_rfl) ?_ _
            repeat (first | go_skip | go_step)
            go_meet
            exact ⟨W17.heap.size,rfl,rfl,Lib.hid (set5 HB7.out),Lib.hid (st5_fr HF7.out HX7.out _ _ _ _ _)⟩
          obtain ⟨X23,rfl,rfl,HB23,HF23⟩:=hcut
          have hcode:code=0∧q=JV.mapV (v.ms++[(nm,r)]):=by
           have hcn:=HCNS.out
           rcases HQ.out with h | h | h
           ·exact absurd ⟨HNB2.out,HEC.out⟩ h.1
           ·exfalso
            have h3:=h.2.2.1
            rw [hcn.1,hcn.2.1,hcn.2.2] at h3
            omega
           ·exact h.2.2.2
          obtain ⟨hc0,hq0⟩:=hcode
          subst hc0
          have HQ0:=Lib.hid hq0
          clear hq0
          obtain ⟨W18,hW18⟩:∃ W,W=wc:=⟨wc,rfl⟩
          subst hW18
          have HFW18:Hid (Fr w W18):=Lib.hid (HGW.out.trans HF23.out)
          have HF1718:Hid (Fr W16 W18):=Lib.hid (HGb.out.trans HF23.out)
          have HF1318:Hid (Fr W13 W18):=Lib.hid (HD15.out.trans HF1718.out)
          have HLEN:Hid ((v.ms++[(nm,r)]).length=v.ms.length+1):=Lib.hid (by simp)
          have HWI2:Hid (∀ W,Fr W18 W→Calls Tryz.prog 18 #[.agg #[.int .i64 v.kd,.int .i64 v.nm,.string ⟨v.tx.toArray⟩,.slice B v.ls.length d,.slice B' v.ms.length d'],.string NB,.agg #[.int .i64 r.kd,.int .i64 r.nm,.string ⟨r.tx.toArray⟩,.slice C r.ls.length f,.slice C' r.ms.length f']] W fun e w'=>∃ (D:Option Addr) (g:Nat),e=.returned (.agg #[.int .i64 6,.int .i64 0,.string ⟨#[]⟩,.slice none 0 0,.slice D (v.ms.length+1) g])∧InV w' (Lo w'.heap.size) (JV.mapV (v.ms++[(nm,r)])) (.agg #[.int .i64 6,.int .i64 0,.string ⟨#[]⟩,.slice none 0 0,.slice D (v.ms.length+1) g])∧Fr W w'):=Lib.hid (fun W hW=>by
           have h:=twith_is v r B d B' d' C f C' f' nm W W.heap.size (Nat.le_refl _) (HKV.out W (HFW18.out.trans hW)) (HIK.out W (HF1718.out.trans hW)) (by omega) (Nat.le_trans HNL.out (by decide))
           rw [if_pos H6.out,Rf.withM_new HNM.out,HLEN.out,HNB.out] at h
           refine h.mono ?_
           rintro e w' ⟨D,g,rfl,hi,hf⟩
           exact ⟨D,g,rfl,hi.more (fun b hb=>by rcases hb with hb | hb;exact Nat.lt_of_lt_of_le hb hf.size;exact hb.2),hf⟩)
          have HSM2:Hid (∀ (W:World) (D:Option Addr) (g:Nat),Fr W18 W→InV W (Lo W.heap.size) (JV.mapV (v.ms++[(nm,r)])) (.agg #[.int .i64 6,.int .i64 0,.string ⟨#[]⟩,.slice none 0 0,.slice D (v.ms.length+1) g])→Calls Tryz.prog 12 #[.agg #[.int .i64 q.kd,.int .i64 q.nm,.string ⟨q.tx.toArray⟩,.slice Cq q.ls.length fq,.slice Cq' q.ms.length fq'],.agg #[.int .i64 6,.int .i64 0,.string ⟨#[]⟩,.slice none 0 0,.slice D (v.ms.length+1) g]] W fun e w'=>e=.returned (.bool true)∧Fr W w'):=Lib.hid (fun W D g hW hi=>by
           have hx:=(HIQ13.out.keep (Nat.le_refl _) (HF1318.out.trans hW)).lo (HF1318.out.trans hW).size
           exact (same_is q (JV.mapV (v.ms++[(nm,r)])) _ _).call true ⟨fun _=>HQ0.out,fun _=>rfl⟩ rfl rfl hx hi)
          have HSY:Hid (∀ W,Fr W18 W→(W.cell? ⟨X5,0,none⟩=some (.int .i64 v.kd)∧W.cell? ⟨X5,1,none⟩=some (.int .i64 v.nm)∧W.cell? ⟨X5,2,none⟩=some (.string ⟨v.tx.toArray⟩)∧W.cell? ⟨X5,3,none⟩=some (.slice B v.ls.length d)∧W.cell? ⟨X5,4,none⟩=some (.slice B' v.ms.length d'))∧(W.cell? ⟨X18,0,none⟩=some (.int .i64 q.kd)∧W.cell? ⟨X18,1,none⟩=some (.int .i64 q.nm)∧W.cell? ⟨X18,2,none⟩=some (.string ⟨q.tx.toArray⟩)∧W.cell? ⟨X18,3,none⟩=some (.slice Cq q.ls.length fq)∧W.cell? ⟨X18,4,none⟩=some (.slice Cq' q.ms.length fq'))∧(W.cell? ⟨X21,0,none⟩=some (.int .i64 r.kd)∧W.cell? ⟨X21,1,none⟩=some (.int .i64 r.nm)∧W.cell? ⟨X21,2,none⟩=some (.string ⟨r.tx.toArray⟩)∧W.cell? ⟨X21,3,none⟩=some (.slice C r.ls.length f)∧W.cell? ⟨X21,4,none⟩=some (.slice C' r.ms.length f'))):=Lib.hid (fun W hW=>⟨(box5 (HX10.out.keep (((HFX12.out.trans HGF.out).trans HF23.out).trans hW))).1,(box5 (HB13.out.keep (HF1318.out.trans hW))).1,(box5 (HBR.out.keep (HF1718.out.trans hW))).1⟩)
          go_upto_region 27 with fail
          refine wp_region_held_drew (S:=(fun W=>(W.cell? ⟨X5,0,none⟩=some (.int .i64 v.kd)∧W.cell? ⟨X5,1,none⟩=some (.int .i64 v.nm)∧W.cell? ⟨X5,2,none⟩=some (.string ⟨v.tx.toArray⟩)∧W.cell? ⟨X5,3,none⟩=some (.slice B v.ls.length d)∧W.cell? ⟨X5,4,none⟩=some (.slice B' v.ms.length d'))∧(W.cell? ⟨X18,0,none⟩=some (.int .i64 q.kd)∧W.cell? ⟨X18,1,none⟩=some (.int .i64 q.nm)∧W.cell? ⟨X18,2,none⟩=some (.string ⟨q.tx.toArray⟩)∧W.cell? ⟨X18,3,none⟩=some (.slice Cq q.ls.length fq)∧W.cell? ⟨X18,4,none⟩=some (.slice Cq' q.ms.length fq'))∧(W.cell? ⟨X21,0,none⟩=some (.int .i64 r.kd)∧W.cell? ⟨X21,1,none⟩=some (.int .i64 r.nm)∧W.cell? ⟨X21,2,none⟩=some (.string ⟨r.tx.toArray⟩)∧W.cell? ⟨X21,3,none⟩=some (.slice C r.ls.length f)∧W.cell? ⟨X21,4,none⟩=some (.slice C' r.ms.length f')))) (by kernel_rfl) ?_ (fun hHeld=>?_)
          ·exact HSY.out _ (Fr.refl _).drew
          refine tk (i:=0) (v:=?_) rfl ⟨by rfl,?_⟩ hHeld ?_
          rotate_left
          ·(intro w' hSw;(try dsimp only at hSw);go_simp;try with_reducible rfl)
          try simp only [Act.put,fl]
          refine tk (i:=1) (v:=?_) rfl ⟨by rfl,?_⟩ hHeld ?_
          rotate_left
          ·(intro w' hSw;(try dsimp only at hSw);go_simp;try with_reducible rfl)
          try simp only [Act.put,fl]
          refine tk (i:=2) (v:=?_) rfl ⟨by rfl,?_⟩ hHeld ?_
          rotate_left
          ·(intro w' hSw;(try dsimp only at hSw);go_simp;try with_reducible rfl)
          try simp only [Act.put,fl]
          refine tk (i:=3) (v:=?_) rfl ⟨by rfl,?_⟩ hHeld ?_
          rotate_left
          ·(intro w' hSw;(try dsimp only at hSw);go_simp;try with_reducible rfl)
          try simp only [Act.put,fl]
          refine tk (i:=4) (v:=?_) rfl ⟨by rfl,?_⟩ hHeld ?_
          rotate_left
          ·(intro w' hSw;(try dsimp only at hSw);go_simp;try with_reducible rfl)
          try simp only [Act.put,fl]
          refine tk (i:=5) (v:=?_) rfl ⟨by rfl,?_⟩ hHeld ?_
          rotate_left
          ·(intro w' hSw;(try dsimp only at hSw);go_simp;try with_reducible rfl)
          try simp only [Act.put,fl]
          refine tk (i:=6) (v:=?_) rfl ⟨by rfl,?_⟩ hHeld ?_
          rotate_left
          ·(intro w' hSw;(try dsimp only at hSw);go_simp;try with_reducible rfl)
          try simp only [Act.put,fl]
          refine tk (i:=7) (v:=?_) rfl ⟨by rfl,?_⟩ hHeld ?_
          rotate_left
          ·(intro w' hSw;(try dsimp only at hSw);go_simp;try with_reducible rfl)
          try simp only [Act.put,fl]
          refine tk (i:=8) (v:=?_) rfl ⟨by rfl,?_⟩ hHeld ?_
          rotate_left
          ·(intro w' hSw;(try dsimp only at hSw);go_simp;try with_reducible rfl)
          try simp only [Act.put,fl]
          refine tk (i:=9) (v:=?_) rfl ⟨by rfl,?_⟩ hHeld ?_
          rotate_left
          ·(intro w' hSw;(try dsimp only at hSw);go_simp;try with_reducible rfl)
          try simp only [Act.put,fl]
          refine tk (i:=10) (v:=?_) rfl ⟨by rfl,?_⟩ hHeld ?_
          rotate_left
          ·(intro w' hSw;(try dsimp only at hSw);go_simp;try with_reducible rfl)
          try simp only [Act.put,fl]
          refine wpAnyH_ready (rs:=[11]) (by kernel_rfl) (by simp) ?_
          refine AllReadyH.cons rfl (fun K hK=>?_) AllReadyH.nil
          go_simp
          (go_at_call 18;refine (HWI2.out _ (Fr.refl W18).drew).mono ?_;rintro e we ⟨D3,g3,rfl,hi,hf⟩;have HIe:=Lib.hid hi;have HFe:Hid (Fr W18 we):=Lib.hid ((Fr.refl W18).drew.trans hf);clear hi hf)
          refine hK.out _ _ (HSY.out _ HFe.out) (fun hH2=>?_)
          clear hK K
          try simp only [Act.put,fl]
          refine wpAnyH_ready (rs:=[12]) (by kernel_rfl) (by simp) ?_
          refine AllReadyH.cons rfl (fun K hK=>?_) AllReadyH.nil
          go_simp
          (go_at_call 12;refine (HSM2.out _ _ _ HFe.out HIe.out).mono ?_;rintro e wg ⟨rfl,hf⟩;have HFg:=Lib.hid (HFe.out.trans hf);clear hf)
          refine hK.out _ _ (HSY.out _ HFg.out) (fun hH3=>?_)
          clear hK K
          try simp only [Act.put,fl]
          refine tk (i:=13) (v:=?_) rfl ⟨by rfl,?_⟩ hH3 ?_
          rotate_left
          ·(intro w' hSw;(try dsimp only at hSw);go_simp;try with_reducible rfl)
          try simp only [Act.put,fl]
          refine tk (i:=14) (v:=?_) rfl ⟨by rfl,?_⟩ hH3 ?_
          rotate_left
          ·(intro w' hSw;(try dsimp only at hSw);go_simp;try with_reducible rfl)
          try simp only [Act.put,fl]
          refine wpAnyH_done (by kernel_rfl) ?_ _
          clear hHeld hH2 hH3
          go_wp2_with fail
          go_ret
          exact ⟨rfl,HFW18.out.trans HFg.out⟩
        ·have d1:(ec != 0)=true:=by rw [bne_iff_ne];exact hec
         have hcode:code=240∧q=JV.zeroV:=by
          rcases HQ.out with h | h | h
          ·exact h.2
          ·exact absurd h.2.1 hec
          ·exact absurd h.2.1 hec
         obtain ⟨hc0,hq0⟩:=hcode
         have HSMZ:=Lib.hid (HSMQ.out hq0)
         subst hc0
         clear hq0 hec
         go_quiet (fail)
         obtain ⟨⟨z0,z1,z2,z3,z4⟩,_⟩:=box5 ((HB13.out.keep HF135.out).keep ((Fr.refl W15).drewN nq))
         have HD15:Hid (Fr W13 (W15.drewN nq)):=Lib.hid (HF135.out.drewN nq)
         have HDW:Hid (Fr w (W15.drewN nq)):=Lib.hid (HFW15.out.drewN nq)
         generalize (W15.drewN nq)=W16 at z0 z1 z2 z3 z4 HD15 HDW ⊢
         clear hcn hck c1 c2 c3 c4
         go_wp2_with (go_at_call 12;refine (HSMZ.out _ HD15.out).mono ?_;rintro e w17 ⟨rfl,hf⟩;have HF17:=Lib.hid (HDW.out.trans hf);clear hf)
         go_ret
         exact ⟨rfl,HF17.out⟩
       ·have c1:((⟨nm0.toArray⟩:ByteArray).toList == (⟨ib.toArray⟩:ByteArray).toList)=false:=by rw [bl_beq'];simpa using hnb
        have c2:(nm0 == ib)=false:=by simpa using hnb
        have c3:(nm0 != ib)=true:=by simpa using hnb
        have c4:((⟨nm0.toArray⟩:ByteArray).toList != (⟨ib.toArray⟩:ByteArray).toList)=true:=by rw [bne,bl_beq'];simpa using hnb
        have hcode:code=240∧q=JV.zeroV:=by
         rcases HQ.out with h | h | h
         ·exact h.2
         ·exact absurd h.1 hnb
         ·exact absurd h.1 hnb
        obtain ⟨hc0,hq0⟩:=hcode
        have HSMZ:=Lib.hid (HSMQ.out hq0)
        subst hc0
        clear hq0 hnb
        go_quiet (fail)
        obtain ⟨⟨z0,z1,z2,z3,z4⟩,_⟩:=box5 ((HB13.out.keep HF135.out).keep ((Fr.refl W15).drewN nq))
        have HD15:Hid (Fr W13 (W15.drewN nq)):=Lib.hid (HF135.out.drewN nq)
        have HDW:Hid (Fr w (W15.drewN nq)):=Lib.hid (HFW15.out.drewN nq)
        generalize (W15.drewN nq)=W16 at z0 z1 z2 z3 z4 HD15 HDW ⊢
        clear hcn hck c1 c2 c3 c4
        go_wp2_with (go_at_call 12;refine (HSMZ.out _ HD15.out).mono ?_;rintro e w17 ⟨rfl,hf⟩;have HF17:=Lib.hid (HDW.out.trans hf);clear hf)
        go_ret
        exact ⟨rfl,HF17.out⟩
   ·have e6:(v.kd != 6)=true:=by rw [bne_iff_ne];exact h6
    obtain ⟨⟨x0,x1,x2,x3,x4⟩,_⟩:=box5 HX8.out
    clear h6
    go_wp2_with fail
    go_ret
    exact ⟨rfl,HFR.out⟩
end Go.Proofs.YtdhakbghdcfncaaGreatDoor
