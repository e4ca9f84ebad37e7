/- The walks of point.lead, Find, Each. -/
import Derived.Test.YtdhakbghdcfncaaGreatDoorPtI
import Derived.Test.YtdhakbghdcfncaaGreatDoorRdd
import Derived.Test.YtdhakbghdcfncaaGreatDoorEe
namespace Go.Proofs.YtdhakbghdcfncaaGreatDoor
set_option maxRecDepth 100000
set_option maxHeartbeats 2000000
set_option linter.unusedVariables false
set_option linter.unusedSimpArgs false
open Go.RowKit

namespace Pt
theorem plain_len:∀ (n:Nat) (l t:List UInt8),l.length≤n→plain l=some t→t.length≤l.length:=by
 intro n
 induction n with
 | zero=>
  intro l t hl h
  have:l=[]:=List.eq_nil_of_length_eq_zero (by omega)
  subst this
  obtain rfl:=Option.some.inj h;simp
 | succ n ih=>
  intro l t hl h
  match l,hl with
  | [],_=>obtain rfl:=Option.some.inj h;simp
  | c::r,hl=>
   have hr:r.length≤n:=by simp at hl;omega
   by_cases hc:c=126
   ·subst hc
    match r,hr with
    | [],_=>simp [plain] at h
    | d::r,hr=>
     have hr2:r.length≤n:=by simp at hr;omega
     rw [plain_two,if_pos rfl] at h
     cases hp:plain r with
     | none=>rw [hp] at h;split at h <;> (try split at h) <;> cases h
     | some q=>
      have:=ih r q hr2 hp
      rw [hp] at h
      split at h
      ·obtain rfl:=Option.some.inj h;simp;omega
      ·split at h
       ·obtain rfl:=Option.some.inj h;simp;omega
       ·cases h
   ·rw [plain_ne _ hc] at h
    cases hp:plain r with
    | none=>rw [hp] at h;cases h
    | some q=>
     have:=ih r q hr hp
     rw [hp] at h
     obtain rfl:=Option.some.inj h;simp;omega
theorem allP_each:∀ (qs ps:List (List UInt8)),allP qs=some ps→ps.length=qs.length ∧ ∀ p∈ps,∃ q∈qs,p.length≤q.length
 | [],ps,h=>by obtain rfl:=Option.some.inj h;exact ⟨rfl,by simp⟩
 | q::qs,ps,h=>by
  rw [allP_def] at h
  cases hp:plain q with
  | none=>rw [hp] at h;cases h
  | some t=>
   rw [hp] at h
   cases hq:allP qs with
   | none=>rw [hq] at h;cases h
   | some r=>
    rw [hq] at h
    obtain rfl:=Option.some.inj h
    obtain ⟨h1,h2⟩:=allP_each qs r hq
    refine ⟨by simp [h1],fun p hp2=>?_⟩
    rcases List.mem_cons.1 hp2 with rfl | hp2
    ·exact ⟨q,by simp,plain_len _ q p (Nat.le_refl _) hp⟩
    ·obtain ⟨q',hq',hl⟩:=h2 p hp2
     exact ⟨q',by simp [hq'],hl⟩
theorem parts_len {s:List UInt8} {ps:List (List UInt8)} (h:parts s=some ps):ps.length≤s.length+1 ∧ ∀ p∈ps,p.length≤s.length:=by
 cases s with
 | nil=>obtain rfl:=Option.some.inj h;simp
 | cons c r=>
  rw [show parts (c::r)=if c=47 then allP (cut r) else none from rfl] at h
  by_cases hc:c=47
  ·rw [if_pos hc] at h
   obtain ⟨h1,h2⟩:=allP_each _ _ h
   have:=cut_len r
   refine ⟨by rw [h1];simp;omega,fun p hp=>?_⟩
   obtain ⟨q,hq,hl⟩:=h2 p hp
   have:=cut_each r q hq
   simp;omega
  ·rw [if_neg hc] at h;cases h
end Pt
theorem Ssl.caps {w:World} {base:Nat} {A:Option Addr} {n c:Nat} {l:List (List UInt8)} (h:Ssl w base (.slice A n c) l):l.length≤c∧c≤9223372036854775807:=by
 rcases h.2 with ⟨hv,hn⟩ | ⟨g,cap,cur,hv,hb,hg,hc,hm,hs,ht⟩
 ·injection hv with _ _ h3
  rw [svs_len] at hn
  omega
 ·injection hv with _ _ h3
  rw [svs_len] at hc
  unfold maxLen at hm
  omega
def LdP (Z:Nat) (w:World) (ps:Option (List (List UInt8))) (st:Bool) (v:JV):Ending→World→Prop:=match ps with
 | none=>fun e w'=>e=.returned (.tuple #[.agg #[.int .i64 0,.int .i64 0,.string ⟨#[]⟩,.slice none 0 0,.slice none 0 0],.int .i64 80])∧Fr w w'
 | some ps=>FdP Z w (Pt.find st ps v)
theorem LdP.form {Z:Nat} {w w':World} {ps:Option (List (List UInt8))} {st:Bool} {v:JV} {x:Ending} (h:LdP Z w ps st v x w'):∃ (k n:Int) (s:ByteArray) (A:Option Addr) (a1 b:Nat) (A':Option Addr) (a' b':Nat) (c:Int),x=.returned (.tuple #[.agg #[.int .i64 k,.int .i64 n,.string s,.slice A a1 b,.slice A' a' b'],.int .i64 c]):=by
 cases ps with
 | none=>obtain ⟨hx,_⟩:=h;exact ⟨_,_,_,_,_,_,_,_,_,_,hx⟩
 | some ps=>exact FdP.form h
theorem LdP.fr {Z:Nat} {w w':World} {ps:Option (List (List UInt8))} {st:Bool} {v:JV} {x:Ending} (h:LdP Z w ps st v x w'):Fr w w':=by
 cases ps with
 | none=>exact h.2
 | some ps=>exact FdP.fr h
theorem LdP.lift {Z:Nat} {w W0 w':World} {ps:Option (List (List UInt8))} {st:Bool} {v:JV} {x:Ending} (h:LdP Z W0 ps st v x w') (hF:Fr w W0) (hZ:Z≤w.heap.size) {X:Nat} (hX:w.heap.size≤X) (hX2:X<W0.heap.size) (u0 u1 u2 u3 u4:Value):
  LdP Z w ps st v x (((((w'.setCell ⟨X,0,none⟩ u0).setCell ⟨X,1,none⟩ u1).setCell ⟨X,2,none⟩ u2).setCell ⟨X,3,none⟩ u3).setCell ⟨X,4,none⟩ u4):=by
 cases ps with
 | none=>exact ⟨h.1,(hF.trans h.2).put5 hX _ _ _ _ _⟩
 | some ps=>exact FdP.lift h hF hZ hX hX2 _ _ _ _ _

theorem lead_is (st:Bool) (v:JV) (B:Option Addr) (d:Nat) (B':Option Addr) (d':Nat) (s:ByteArray) (w:World) (Z:Nat) (hZ:Z≤w.heap.size) (h:InV w (Lo Z) v (vA v B d B' d')) (hn:Rd.nv v≤1048576) (hs:s.size<4294967281) (hM:MxL w):
  Calls Tryz.prog 43 #[.agg #[.int .i64 v.kd,.int .i64 v.nm,.string ⟨v.tx.toArray⟩,.slice B v.ls.length d,.slice B' v.ms.length d'],.string s,.bool st] w (LdP Z w (Pt.parts s.data.toList) st v):=by
 have HW:Hid (Fr w ((w.alloc (.cells #[.int .i64 v.kd,.int .i64 v.nm,.string ⟨v.tx.toArray⟩,.slice B v.ls.length d,.slice B' v.ms.length d'] 25)).alloc (.cells #[.int .i64 0,.int .i64 0,.string ⟨#[]⟩,.slice none 0 0,.slice none 0 0] 25))):=((Fr.refl w).alloc _).alloc _
 have HBV:Hid (Blk ((w.alloc (.cells #[.int .i64 v.kd,.int .i64 v.nm,.string ⟨v.tx.toArray⟩,.slice B v.ls.length d,.slice B' v.ms.length d'] 25)).alloc (.cells #[.int .i64 0,.int .i64 0,.string ⟨#[]⟩,.slice none 0 0,.slice none 0 0] 25)) w.heap.size #[.int .i64 v.kd,.int .i64 v.nm,.string ⟨v.tx.toArray⟩,.slice B v.ls.length d,.slice B' v.ms.length d'] 25):=(Blk.made w _ _).keep ((Fr.refl _).alloc _)
 have HBZ:Hid (Blk ((w.alloc (.cells #[.int .i64 v.kd,.int .i64 v.nm,.string ⟨v.tx.toArray⟩,.slice B v.ls.length d,.slice B' v.ms.length d'] 25)).alloc (.cells #[.int .i64 0,.int .i64 0,.string ⟨#[]⟩,.slice none 0 0,.slice none 0 0] 25)) (w.heap.size+1) #[.int .i64 0,.int .i64 0,.string ⟨#[]⟩,.slice none 0 0,.slice none 0 0] 25):=boxz (Blk.made (w.alloc _) _ _)
 have HV:=Lib.hid h
 have HM:=Lib.hid hM
 have HS:=Lib.hid hs
 have n0:¬ w.heap.size+1=w.heap.size:=by omega
 rcases hp:Pt.parts s.data.toList with _ | ps
 ·have HP:=Lib.hid hp
  clear hp h hM hn
  go_enter Tryz.func43,Tryz.ntmps43
  go_wp2_with (go_at_call 66;refine (parts_is s _ HS.out (HM.out.keep HW.out)).mono ?_;rw [HP.out];rintro e w1 ⟨rfl,hf⟩;have hb:=HBZ.out.keep hf;obtain ⟨⟨x0,x1,x2,x3,x4⟩,g0,g1,g2,g3,g4⟩:=box5 hb;have HB1:=Lib.hid hb;have HF1:=Lib.hid hf;clear hf hb)
  refine bodyPost_ret (results_cs (by rfl) rfl _ (w.heap.size+1) (by rfl) (by rfl) _ _ _ _ _ (set5 HB1.out)) rfl ?_
  exact ⟨rfl,(HW.out.trans HF1.out).put5 (Nat.le_succ _) _ _ _ _ _⟩
 ·obtain ⟨hl1,hl2⟩:=Pt.parts_len hp
  have hsz:s.data.toList.length=s.size:=by simp
  have HP:=Lib.hid hp
  have HL:Hid (∀ q∈ps,q.length≤9223372036854775807):=fun q hq=>by have:=hl2 q hq;omega
  have HC:Hid (∀ (W:World) (A:Option Addr) (c:Nat),Fr w W→PsC W A ps→ps.length≤c→c≤9223372036854775807→Calls Tryz.prog 67 #[.agg #[.int .i64 v.kd,.int .i64 v.nm,.string ⟨v.tx.toArray⟩,.slice B v.ls.length d,.slice B' v.ms.length d'],.slice A ps.length c,.bool st] W (FdP Z W (Pt.find st ps v))):=Lib.hid (fun W A c hW hA hc hc2=>find_is st ps v B d B' d' A c W Z (Nat.le_trans hZ hW.size) (HV.out.keep hZ hW) hn hA hc hc2 HL.out)
  obtain ⟨r,hr⟩:∃ r,Pt.find st ps v=r:=⟨_,rfl⟩
  have HR:=Lib.hid hr
  rw [hr] at HC
  clear hp h hM hn hl1 hl2 hsz hr
  go_enter Tryz.func43,Tryz.ntmps43
  go_wp2_with (first
   | (go_at_call 67;refine (HC.out _ A c (HW.out.trans HF1.out) HPS.out hcap.1 hcap.2).mono ?_;intro x w2 h2;obtain ⟨k3,n3,s3,A3,a3,b3,A3',a3',b3',t3,rfl⟩:=h2.form;have hb:=HBZ.out.keep (HF1.out.trans h2.fr);obtain ⟨⟨x0,x1,x2,x3,x4⟩,g0,g1,g2,g3,g4⟩:=box5 hb;have HB2:=Lib.hid hb;have H2:=Lib.hid h2;clear h2 hb)
   | (go_at_call 66;refine (parts_is s _ HS.out (HM.out.keep HW.out)).mono ?_;rw [HP.out];rintro e w1 ⟨pv,rfl,hss,hf⟩;obtain ⟨A,c,rfl,hps⟩:=hss.shows;have hcap:=Ssl.caps hss;have hb:=HBV.out.keep hf;obtain ⟨⟨y0,y1,y2,y3,y4⟩,_⟩:=box5 hb;have HPS:=Lib.hid hps;have HF1:=Lib.hid hf;clear hf hb hss hps))
  refine bodyPost_ret (results_cs (by rfl) rfl _ (w.heap.size+1) (by rfl) (by rfl) _ _ _ _ _ (set5 HB2.out)) rfl ?_
  have:=H2.out.lift (HW.out.trans HF1.out) hZ (X:=w.heap.size+1) (Nat.le_succ _) (Nat.lt_of_lt_of_le HBZ.out.lt HF1.out.size) (.int .i64 k3) (.int .i64 n3) (.string s3) (.slice A3 a3 b3) (.slice A3' a3' b3')
  rw [← HR.out] at this
  exact this
/- The walks of point.Find and point.Each. -/

theorem peach_is (v:JV) (B:Option Addr) (d:Nat) (B':Option Addr) (d':Nat) (s:ByteArray) (w:World) (Z:Nat) (hZ:Z≤w.heap.size) (h:InV w (Lo Z) v (vA v B d B' d')) (hn:Rd.nv v≤1048576) (hs:s.size<4294967281) (hM:MxL w):
  Calls Tryz.prog 19 #[.agg #[.int .i64 v.kd,.int .i64 v.nm,.string ⟨v.tx.toArray⟩,.slice B v.ls.length d,.slice B' v.ms.length d'],.string s] w (LdP Z w (Pt.parts s.data.toList) true v):=by
 have HW:Hid (Fr w ((w.alloc (.cells #[.int .i64 v.kd,.int .i64 v.nm,.string ⟨v.tx.toArray⟩,.slice B v.ls.length d,.slice B' v.ms.length d'] 25)).alloc (.cells #[.int .i64 0,.int .i64 0,.string ⟨#[]⟩,.slice none 0 0,.slice none 0 0] 25))):=((Fr.refl w).alloc _).alloc _
 have HBV:Hid (Blk ((w.alloc (.cells #[.int .i64 v.kd,.int .i64 v.nm,.string ⟨v.tx.toArray⟩,.slice B v.ls.length d,.slice B' v.ms.length d'] 25)).alloc (.cells #[.int .i64 0,.int .i64 0,.string ⟨#[]⟩,.slice none 0 0,.slice none 0 0] 25)) w.heap.size #[.int .i64 v.kd,.int .i64 v.nm,.string ⟨v.tx.toArray⟩,.slice B v.ls.length d,.slice B' v.ms.length d'] 25):=(Blk.made w _ _).keep ((Fr.refl _).alloc _)
 have HBZ:Hid (Blk ((w.alloc (.cells #[.int .i64 v.kd,.int .i64 v.nm,.string ⟨v.tx.toArray⟩,.slice B v.ls.length d,.slice B' v.ms.length d'] 25)).alloc (.cells #[.int .i64 0,.int .i64 0,.string ⟨#[]⟩,.slice none 0 0,.slice none 0 0] 25)) (w.heap.size+1) #[.int .i64 0,.int .i64 0,.string ⟨#[]⟩,.slice none 0 0,.slice none 0 0] 25):=boxz (Blk.made (w.alloc _) _ _)
 have n0:¬ w.heap.size+1=w.heap.size:=by omega
 have HC:Hid (∀ (W:World),Fr w W→Calls Tryz.prog 43 #[.agg #[.int .i64 v.kd,.int .i64 v.nm,.string ⟨v.tx.toArray⟩,.slice B v.ls.length d,.slice B' v.ms.length d'],.string s,.bool true] W (LdP Z W (Pt.parts s.data.toList) true v)):=Lib.hid (fun W hW=>lead_is true v B d B' d' s W Z (Nat.le_trans hZ hW.size) (h.keep hZ hW) hn hs (hM.keep hW))
 obtain ⟨r,hr⟩:∃ r,Pt.parts s.data.toList=r:=⟨_,rfl⟩
 have HR:=Lib.hid hr
 rw [hr] at HC
 clear h hM hn hr hs
 obtain ⟨⟨y0,y1,y2,y3,y4⟩,f0,f1,f2,f3,f4⟩:=box5 HBV.out
 go_enter Tryz.func19,Tryz.ntmps19
 go_wp2_with (go_at_call 43;refine (HC.out _ HW.out).mono ?_;intro x w2 h2;obtain ⟨k3,n3,s3,A3,a3,b3,A3',a3',b3',t3,rfl⟩:=h2.form;have hb:=HBZ.out.keep h2.fr;obtain ⟨⟨x0,x1,x2,x3,x4⟩,g0,g1,g2,g3,g4⟩:=box5 hb;have HB2:=Lib.hid hb;have H2:=Lib.hid h2;clear h2 hb)
 refine bodyPost_ret (results_cs (by rfl) rfl _ (w.heap.size+1) (by rfl) (by rfl) _ _ _ _ _ (set5 HB2.out)) rfl ?_
 have:=H2.out.lift HW.out hZ (X:=w.heap.size+1) (Nat.le_succ _) HBZ.out.lt (.int .i64 k3) (.int .i64 n3) (.string s3) (.slice A3 a3 b3) (.slice A3' a3' b3')
 rw [← HR.out] at this
 exact this
/- What chapter 08's awake sees. -/

def aw8y:JV:=JV.listV [JV.intV 1,JV.intV 2,JV.intV 3]
def aw8:JV:=JV.mapV [([97],JV.listV [JV.mapV [([98],JV.intV 1)],JV.mapV [([98],JV.listV [JV.intV 2,JV.intV 3])]])]
/- The walk of chapter 08's law of the parts. -/

/- The walk of chapter 08's law of the texts. -/

/- The walk of chapter 08's hasStar. -/

end Go.Proofs.YtdhakbghdcfncaaGreatDoor
