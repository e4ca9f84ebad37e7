/- Chapter 24, plain: arguments by kinds. -/
import Derived.Test.YtdhakbghdcfncaaGreatDoorRfa
import Derived.Test.YtdhakbghdcfncaaGreatDoorIdt
import Derived.Test.YtdhakbghdcfncaaGreatDoorRff
import Derived.Test.YtdhakbghdcfncaaGreatDoorPtt
import Derived.Test.YtdhakbghdcfncaaGreatDoorCpa
import Derived.Test.YtdhakbghdcfncaaGreatDoorReadM
import Derived.Deep.CutRange
namespace Go.Proofs.YtdhakbghdcfncaaGreatDoor
set_option maxRecDepth 100000
set_option maxHeartbeats 8000000
set_option linter.unusedVariables false
set_option linter.unusedSimpArgs false
open Go.RowKit

namespace Rf
def nullV:JV:=.mk 1 0 [] [] []
def argv (v:JV) (s:Tx):JV:=(Pt.get v s).getD nullV
def isB (c:UInt8) (s:Tx):Bool:=if c=108 then Idn.isId s else if c=114 then Idn.isId (bare s).1 else true
def goodB (c:UInt8) (x:JV):Bool:=decide (x.kd=4) && isB c x.tx
def textsB (c:UInt8) (v:JV):Bool:=decide (v.kd=5) && v.ls.all (goodB c)
def may (c:UInt8) (v:JV):Bool:=
 if v.kd=1∧c≠105∧c≠115∧c≠118 then true
 else if c=105∨c=73 then decide (v.kd=4) && Idn.isId v.tx
 else if c=115∨c=83 then decide (v.kd=4)
 else if c=118∨c=86 then decide (v.kd=6)
 else if c=119 then true
 else if c=108∨c=114∨c=116 then textsB c v
 else if c=110 then decide (v.kd=3) && decide (0≤v.nm)
 else if c=112 then decide (v.kd=3) && decide (1≤v.nm)
 else if c=122 then decide (v.kd=3)
 else if c=98 then decide (v.kd=2)
 else false
abbrev Kind:=Tx × UInt8
def hits (v:JV) (ks:List Kind):Nat:=ks.countP fun k=>(Pt.get v k.1).isSome
def mays (v:JV) (ks:List Kind):Bool:=ks.all fun k=>may k.2 (argv v k.1)
def args (v:JV) (ks:List Kind):Option (List JV):=if v.kd=6∧mays v ks=true∧hits v ks=v.ms.length then some (ks.map fun k=>argv v k.1) else none
theorem take_one {α} (l:List α) (i:Nat) (h:i<l.length):l.take (i+1)=l.take i++[l[i]]:=List.take_succ_eq_append_getElem h
theorem hits_take (v:JV) (ks:List Kind) (i:Nat) (h:i<ks.length):hits v (ks.take (i+1))=hits v (ks.take i)+if (Pt.get v ks[i].1).isSome then 1 else 0:=by
 unfold hits
 rw [take_one ks i h,List.countP_append,List.countP_singleton]
theorem hits_le (v:JV) (ks:List Kind):hits v ks≤ks.length:=List.countP_le_length
theorem mays_take (v:JV) (ks:List Kind) (i:Nat) (h:i<ks.length):mays v (ks.take (i+1))=(mays v (ks.take i) && may ks[i].2 (argv v ks[i].1)):=by
 unfold mays
 rw [take_one ks i h,List.all_append];simp
theorem mays_no (v:JV) (ks:List Kind) (i:Nat) (h:i<ks.length) (hm:may ks[i].2 (argv v ks[i].1)=false):mays v ks=false:=by
 unfold mays
 rw [List.all_eq_false]
 exact ⟨ks[i],List.getElem_mem h,by rw [hm];decide⟩
theorem args_kd {v:JV} {ks:List Kind} (h:¬ v.kd=6):args v ks=none:=by unfold args;rw [if_neg (fun e=>h e.1)]
theorem args_may {v:JV} {ks:List Kind} (h:mays v ks=false):args v ks=none:=by unfold args;rw [if_neg (fun e=>by rw [h] at e;cases e.2.1)]
theorem args_hits {v:JV} {ks:List Kind} (h:¬ hits v ks=v.ms.length):args v ks=none:=by unfold args;rw [if_neg (fun e=>h e.2.2)]
theorem args_ok {v:JV} {ks:List Kind} (h:v.kd=6) (hm:mays v ks=true) (hh:hits v ks=v.ms.length):args v ks=some (ks.map fun k=>argv v k.1):=by unfold args;rw [if_pos ⟨h,hm,hh⟩]
end Rf
/- Lists of texts; refs.may. -/

theorem ist_is (s:List UInt8) (w:World) (hs:s.length≤1048576):Calls Tryz.prog 54 #[.string ⟨s.toArray⟩] w fun e w'=>e=.returned (.bool (Idn.isId s))∧Fr w w':=by
 have h:=is_id_any ⟨s.toArray⟩ w (by show s.toArray.size≤_;rw [List.size_toArray];exact Nat.le_trans hs (by decide))
 rw [show (⟨s.toArray⟩:ByteArray).data.toList=s by simp] at h
 exact h.mono (by rintro e w' ⟨rfl,rfl⟩;exact ⟨rfl,Fr.refl _⟩)
theorem rfmay1_is (s:List UInt8) (w:World) (hs:s.length≤1048576):Calls Tryz.prog 56 #[.string ⟨s.toArray⟩] w fun e w'=>e=.returned (.bool (Idn.isId (Rf.bare s).1))∧Fr w w':=by
 have hbl:=Rf.bare_le s
 obtain ⟨bn,hbn⟩:∃ b,(Rf.bare s).1=b:=⟨_,rfl⟩
 rw [hbn] at hbl ⊢
 have HBN:=Lib.hid hbn
 have HIS:Hid (∀ W,Calls Tryz.prog 54 #[.string ⟨bn.toArray⟩] W fun e w'=>e=.returned (.bool (Idn.isId bn))∧Fr W w'):=Lib.hid (fun W=>ist_is bn W (Nat.le_trans hbl hs))
 clear hbn
 go_enter Tryz.func56,Tryz.ntmps56
 go_wp2_with (first
  | (go_at_call 54;refine (HIS.out _).mono ?_;rintro e w2 ⟨rfl,hf⟩;have HF2:=Lib.hid hf;clear hf)
  | (go_at_call 57;refine (trim_at s bn _ HBN.out).mono ?_;rintro _ _ ⟨rfl,rfl⟩))
 go_ret
 exact ⟨rfl,HF2.out⟩
theorem rfmay2_is (s:List UInt8) (w:World):Calls Tryz.prog 58 #[.string ⟨s.toArray⟩] w fun e w'=>e=.returned (.bool true)∧Fr w w':=by
 go_enter Tryz.func58,Tryz.ntmps58
 go_wp2_with fail
 go_ret
 exact ⟨rfl,Fr.refl _⟩
theorem isb_is (c:UInt8) (N:Nat) (hN:(c=108∧N=54)∨(c=114∧N=56)∨(c=116∧N=58)) (s:List UInt8) (w:World) (hs:s.length≤1048576):Calls Tryz.prog N #[.string ⟨s.toArray⟩] w fun e w'=>e=.returned (.bool (Rf.isB c s))∧Fr w w':=by
 rcases hN with ⟨rfl,rfl⟩ | ⟨rfl,rfl⟩ | ⟨rfl,rfl⟩
 ·exact ist_is s w hs
 ·exact rfmay1_is s w hs
 ·exact rfmay2_is s w
theorem texts1_is (c:UInt8) (N:Nat) (hN:(c=108∧N=54)∨(c=114∧N=56)∨(c=116∧N=58)) (x:JV) (C:Option Addr) (f:Nat) (C':Option Addr) (f':Nat) (X3:Nat) (w:World) (hX:X3<w.heap.size) (hc:w.cell? ⟨X3,0,none⟩=some (Value.func (.func N) #[] #[])) (hs:x.tx.length≤1048576):
  Calls Tryz.prog 77 #[.agg #[.int .i64 x.kd,.int .i64 x.nm,.string ⟨x.tx.toArray⟩,.slice C x.ls.length f,.slice C' x.ms.length f'],.pointer (some ⟨X3,0,none⟩)] w fun e w'=>e=.returned (.bool (!Rf.goodB c x))∧Fr w w':=by
 obtain ⟨ib,hib⟩:∃ b,Rf.isB c x.tx=b:=⟨_,rfl⟩
 have HFQ:Hid True:=trivial
 have HIS:Hid (∀ W,True→Calls Tryz.prog N #[.string ⟨x.tx.toArray⟩] W fun e w'=>e=.returned (.bool ib)∧Fr W w'):=Lib.hid (fun W _=>by rw [← hib];exact isb_is c N hN x.tx W hs)
 have hr:Rf.goodB c x=(decide (x.kd=4) && ib):=by unfold Rf.goodB;rw [hib]
 have hc2:=(((Fr.refl w).alloc (.cells #[.int .i64 x.kd,.int .i64 x.nm,.string ⟨x.tx.toArray⟩,.slice C x.ls.length f,.slice C' x.ms.length f'] 25)).cell (o:=0) hX).trans hc
 by_cases h4:x.kd=4
 ·have e4:(x.kd != 4)=false:=by rw [h4];rfl
  have HR:Hid (Rf.goodB c x=ib):=Lib.hid (by rw [hr,h4];rfl)
  clear hib hc hr hs h4
  rcases hN with ⟨rfl,rfl⟩ | ⟨rfl,rfl⟩ | ⟨rfl,rfl⟩
  all_goals
   go_enter Tryz.func77,Tryz.ntmps77
   go_wp2_with (first | (go_at_call 54;refine (HIS.out _ ?hq1).mono ?_;(case hq1=>exact HFQ.out);rintro e w2 ⟨rfl,hf⟩;have HF2:=Lib.hid hf;clear hf) | (go_at_call 56;refine (HIS.out _ ?hq1).mono ?_;(case hq1=>exact HFQ.out);rintro e w2 ⟨rfl,hf⟩;have HF2:=Lib.hid hf;clear hf) | (go_at_call 58;refine (HIS.out _ ?hq1).mono ?_;(case hq1=>exact HFQ.out);rintro e w2 ⟨rfl,hf⟩;have HF2:=Lib.hid hf;clear hf))
   go_ret
   exact ⟨by rw [HR.out];rfl,((Fr.refl w).alloc _).trans HF2.out⟩
 ·have e4:(x.kd != 4)=true:=by rw [bne_iff_ne];exact h4
  have HR:Hid (Rf.goodB c x=false):=Lib.hid (by rw [hr];simp [h4])
  clear hib hc hr hs h4 HIS hc2
  go_enter Tryz.func77,Tryz.ntmps77
  go_wp2_with fail
  go_ret
  exact ⟨by rw [HR.out];rfl,(Fr.refl w).alloc _⟩
theorem idxtx_is (c:UInt8) (N:Nat) (hN:(c=108∧N=54)∨(c=114∧N=56)∨(c=116∧N=58)) (l:List JV) (A:Option Addr) (c0 X3:Nat) (w:World) (h:LsC w (Lo w.heap.size) A l) (hl:l.length≤1048576) (hs:∀ x∈l,x.tx.length≤1048576) (hX:X3<w.heap.size) (hc:w.cell? ⟨X3,0,none⟩=some (Value.func (.func N) #[] #[])):
  Calls Tryz.prog 98 #[.slice A l.length c0,(Value.func (.func 77) #[] #[.pointer (some ⟨X3,0,none⟩)])] w fun e w'=>(∃ z:Int,e=.returned (.int .i64 z)∧((l.all (Rf.goodB c)=false∧0≤z)∨(l.all (Rf.goodB c)=true∧z = -1)))∧Fr w w':=by
 have HP:=Lib.hid h
 have HS:=Lib.hid hs
 have hl':(l.length:Int)≤1048576:=by omega
 have HW:Hid (∀ W,Fr w W → ∀ (x:JV) (C:Option Addr) (f:Nat) (C':Option Addr) (f':Nat),x.tx.length≤1048576→Calls Tryz.prog 77 #[.agg #[.int .i64 x.kd,.int .i64 x.nm,.string ⟨x.tx.toArray⟩,.slice C x.ls.length f,.slice C' x.ms.length f'],.pointer (some ⟨X3,0,none⟩)] W fun e w'=>e=.returned (.bool (!Rf.goodB c x))∧Fr W w'):=Lib.hid (fun W hW x C f C' f' hx=>texts1_is c N hN x C f C' f' X3 W (Nat.lt_of_lt_of_le hX hW.size) ((hW.cell hX).trans hc) hx)
 clear h hs hX hc hN
 go_enter Tryz.func98,Tryz.ntmps98
 go_wp2_with fail
 go_loopw [8] (fun j wr=>∃ (i:Nat),i≤l.length∧j=.int .i64 i∧Hid (∀ y (hy:y<l.length),y<i→Rf.goodB c l[y]=true)∧Hid (Fr w wr)) (fun j _=>l.length - (intOf j).toNat)
 case atStart=>exact ⟨0,by omega,rfl,Lib.hid (fun y _ h=>absurd h (by omega)),Lib.hid (Fr.refl w)⟩
 case round=>
  obtain ⟨i,hi,rfl,hO,hF⟩:=hrel
  by_cases hlt:i<l.length
  ·have hlt':(i:Int)<(l.length:Int):=by omega
   obtain ⟨b,o,C,e,C',e',rfl,hb,⟨c1,c2,c3,c4,c5⟩,hu⟩:=(HP.out.keep (Nat.le_refl _) hF.out) i hlt
   have hsx:=HS.out l[i] (List.getElem_mem hlt)
   obtain ⟨x,hxu⟩:∃ u,l[i]=u:=⟨_,rfl⟩
   rw [hxu] at c1 c2 c3 c4 c5 hsx
   obtain ⟨cb,hcb⟩:∃ cb,Rf.goodB c x=cb:=⟨_,rfl⟩
   have HCB:=Lib.hid hcb
   have HQ:=Lib.hid hxu
   have HSX:=Lib.hid hsx
   clear hb hcb hxu hu hsx
   cases cb
   ·go_wp2_with (go_at_call 77;refine (HW.out _ hF.out _ _ _ _ _ HSX.out).mono ?_;rw [HCB.out];rintro e w1 ⟨rfl,hf⟩;have HF1:=Lib.hid (hF.out.trans hf);clear hf)
    go_ret
    exact ⟨⟨i,rfl,.inl ⟨by rw [List.all_eq_false];exact ⟨l[i],List.getElem_mem hlt,by rw [HQ.out,HCB.out];decide⟩,by omega⟩⟩,HF1.out⟩
   ·go_wp2_with (go_at_call 77;refine (HW.out _ hF.out _ _ _ _ _ HSX.out).mono ?_;rw [HCB.out];rintro e w1 ⟨rfl,hf⟩;have HF1:=Lib.hid (hF.out.trans hf);clear hf)
    exact ⟨⟨i+1,by omega,by go_num,Lib.hid (fun y hy hyt=>by
     by_cases e:y=i
     ·subst e;rw [HQ.out];exact HCB.out
     ·exact hO.out y hy (by omega)),HF1⟩,by simp [intOf];omega⟩
  ·obtain rfl:i=l.length:=by omega
   go_wp2_with fail
   go_ret
   exact ⟨⟨-1,rfl,.inr ⟨by rw [List.all_eq_true];intro x hx;obtain ⟨y,hy,rfl⟩:=List.mem_iff_getElem.1 hx;exact hO.out y hy hy,rfl⟩⟩,hF.out⟩
theorem hastx_is (c:UInt8) (N:Nat) (hN:(c=108∧N=54)∨(c=114∧N=56)∨(c=116∧N=58)) (l:List JV) (A:Option Addr) (c0 X3:Nat) (w:World) (h:LsC w (Lo w.heap.size) A l) (hl:l.length≤1048576) (hs:∀ x∈l,x.tx.length≤1048576) (hX:X3<w.heap.size) (hc:w.cell? ⟨X3,0,none⟩=some (Value.func (.func N) #[] #[])):
  Calls Tryz.prog 76 #[.slice A l.length c0,(Value.func (.func 77) #[] #[.pointer (some ⟨X3,0,none⟩)])] w fun e w'=>e=.returned (.bool (!l.all (Rf.goodB c)))∧Fr w w':=by
 have HI:Hid (∀ W,Fr w W→Calls Tryz.prog 98 #[.slice A l.length c0,(Value.func (.func 77) #[] #[.pointer (some ⟨X3,0,none⟩)])] W fun e w'=>(∃ z:Int,e=.returned (.int .i64 z)∧((l.all (Rf.goodB c)=false∧0≤z)∨(l.all (Rf.goodB c)=true∧z = -1)))∧Fr W w'):=Lib.hid (fun W hW=>idxtx_is c N hN l A c0 X3 W ((h.keep (Nat.le_refl _) hW).map (fun b hb=>Nat.lt_of_lt_of_le hb hW.size) (fun _ _ _=>rfl)) hl hs (Nat.lt_of_lt_of_le hX hW.size) ((hW.cell hX).trans hc))
 obtain ⟨r,hr⟩:∃ r,l.all (Rf.goodB c)=r:=⟨_,rfl⟩
 rw [hr] at HI ⊢
 clear hr h hl hs hX hc hN
 cases r
 ·go_enter Tryz.func76,Tryz.ntmps76
  go_wp2_with (go_at_call 98;refine (HI.out _ (Fr.refl _)).mono ?_;rintro e w2 ⟨⟨z,rfl,hz⟩,hf⟩;have HF2:=Lib.hid hf;have hz2:0≤z:=by { rcases hz with ⟨_,h⟩ | ⟨h,_⟩;exact h;cases h };clear hf hz)
  go_ret
  exact ⟨rfl,HF2.out⟩
 ·go_enter Tryz.func76,Tryz.ntmps76
  go_wp2_with (go_at_call 98;refine (HI.out _ (Fr.refl _)).mono ?_;rintro e w2 ⟨⟨z,rfl,hz⟩,hf⟩;have HF2:=Lib.hid hf;obtain rfl:z = -1:=by { rcases hz with ⟨h,_⟩ | ⟨_,h⟩;cases h;exact h };clear hf hz)
  go_ret
  exact ⟨rfl,HF2.out⟩
theorem texts_is (c:UInt8) (N:Nat) (hN:(c=108∧N=54)∨(c=114∧N=56)∨(c=116∧N=58)) (v:JV) (B:Option Addr) (d:Nat) (B':Option Addr) (d':Nat) (w:World) (hv:InV w (Lo w.heap.size) v (vA v B d B' d')) (hb:JV.bulk v≤1048576):
  Calls Tryz.prog 55 #[.agg #[.int .i64 v.kd,.int .i64 v.nm,.string ⟨v.tx.toArray⟩,.slice B v.ls.length d,.slice B' v.ms.length d'],(Value.func (.func N) #[] #[])] w fun e w'=>e=.returned (.bool (Rf.textsB c v))∧Fr w w':=by
 have hls:LsC w (Lo w.heap.size) B v.ls:=by
  obtain ⟨Q,q,Q',q',he,hls,_⟩:=hv.open_
  have hA:B=Q:=by obtain ⟨_,_,_,e3,_⟩:=five he;injection e3
  rw [hA];exact hls
 have hbe:=Rf.bulk_eq v
 have hll:=Rf.bigL_len v.ls
 have hsx:∀ x∈v.ls,x.tx.length≤1048576:=fun x hx=>by have h1:=Rf.bigL_mem hx;have h2:=Rf.bulk_eq x;omega
 obtain ⟨gb,hgb⟩:∃ b,v.ls.all (Rf.goodB c)=b:=⟨_,rfl⟩
 have HCF:Hid (∀ (W:World) (X3:Nat),Fr w W→X3<W.heap.size→W.cell? ⟨X3,0,none⟩=some (Value.func (.func N) #[] #[])→Calls Tryz.prog 76 #[.slice B v.ls.length d,(Value.func (.func 77) #[] #[.pointer (some ⟨X3,0,none⟩)])] W fun e w'=>e=.returned (.bool (!gb))∧Fr W w'):=Lib.hid (fun W X3 hW hX hc=>by
  rw [← hgb]
  exact hastx_is c N hN v.ls B d X3 W ((hls.keep (Nat.le_refl _) hW).map (fun b hb=>Nat.lt_of_lt_of_le hb hW.size) (fun _ _ _=>rfl)) (by omega) hsx hX hc)
 have hr:Rf.textsB c v=(decide (v.kd=5) && gb):=by unfold Rf.textsB;rw [hgb]
 have hll':(v.ls.length:Int)≤1048576:=by omega
 clear hv hb hls hbe hll hsx hgb
 by_cases h5:v.kd=5
 ·have e5:(v.kd == 5)=true:=by rw [h5];rfl
  have HR:Hid (Rf.textsB c v=gb):=Lib.hid (by rw [hr,h5];rfl)
  clear hr h5 hN
  go_enter Tryz.func55,Tryz.ntmps55
  go_upto_region 1 with fail
  have hx0:Blk ((w.alloc (.cells #[.int .i64 v.kd,.int .i64 v.nm,.string ⟨v.tx.toArray⟩,.slice B v.ls.length d,.slice B' v.ms.length d'] 25)).alloc (.cells #[(Value.func (.func N) #[] #[])] 98)) w.heap.size #[.int .i64 v.kd,.int .i64 v.nm,.string ⟨v.tx.toArray⟩,.slice B v.ls.length d,.slice B' v.ms.length d'] 25:=(Blk.made w _ _).keep ((Fr.refl _).alloc _)
  have hy0:Blk ((w.alloc (.cells #[.int .i64 v.kd,.int .i64 v.nm,.string ⟨v.tx.toArray⟩,.slice B v.ls.length d,.slice B' v.ms.length d'] 25)).alloc (.cells #[(Value.func (.func N) #[] #[])] 98)) (w.heap.size+1) #[(Value.func (.func N) #[] #[])] 98:=boxz (Blk.made (w.alloc _) _ _)
  have hf0:Fr w ((w.alloc (.cells #[.int .i64 v.kd,.int .i64 v.nm,.string ⟨v.tx.toArray⟩,.slice B v.ls.length d,.slice B' v.ms.length d'] 25)).alloc (.cells #[(Value.func (.func N) #[] #[])] 98)):=((Fr.refl w).alloc _).alloc _
  generalize ((w.alloc (.cells #[.int .i64 v.kd,.int .i64 v.nm,.string ⟨v.tx.toArray⟩,.slice B v.ls.length d,.slice B' v.ms.length d'] 25)).alloc (.cells #[(Value.func (.func N) #[] #[])] 98))=W1 at hx0 hy0 hf0 ⊢
  generalize w.heap.size+1=X3 at hy0 ⊢
  generalize w.heap.size=X2 at hx0 ⊢
  obtain ⟨⟨x0,x1,x2,x3,x4⟩,_⟩:=box5 hx0
  have HY0:=Lib.hid hy0
  have HF0:=Lib.hid hf0
  clear hx0 hy0 hf0
  go_wp2_with (go_at_call 76;refine (HCF.out _ X3 HF0.out HY0.out.lt (HY0.out.cell 0)).mono ?_;rintro e w2 ⟨rfl,hf⟩;have HF2:=Lib.hid (HF0.out.trans hf);clear hf)
  go_ret
  exact ⟨by rw [HR.out];simp,HF2.out⟩
 ·have e5:(v.kd == 5)=false:=by rw [beq_eq_false_iff_ne];exact h5
  have HR:Hid (Rf.textsB c v=false):=Lib.hid (by rw [hr];simp [h5])
  clear hr h5 hN HCF
  go_enter Tryz.func55,Tryz.ntmps55
  go_wp2_with fail
  go_ret
  exact ⟨by rw [HR.out];rfl,((Fr.refl w).alloc _).alloc _⟩
theorem rfmay105_is (v:JV) (B:Option Addr) (d:Nat) (B':Option Addr) (d':Nat) (w:World) (hv:InV w (Lo w.heap.size) v (vA v B d B' d')) (hb:JV.bulk v≤1048576):
  Calls Tryz.prog 31 #[.int .u8 105,.agg #[.int .i64 v.kd,.int .i64 v.nm,.string ⟨v.tx.toArray⟩,.slice B v.ls.length d,.slice B' v.ms.length d']] w fun e w'=>e=.returned (.bool (Rf.may 105 v))∧Fr w w':=by
 have hbe:=Rf.bulk_eq v
 have htx:v.tx.length≤1048576:=by omega
 obtain ⟨ib,hib⟩:∃ b,Idn.isId v.tx=b:=⟨_,rfl⟩
 have HIS:Hid (∀ W,Calls Tryz.prog 54 #[.string ⟨v.tx.toArray⟩] W fun e w'=>e=.returned (.bool ib)∧W=w'):=Lib.hid (fun W=>by
  have h:=is_id_any ⟨v.tx.toArray⟩ W (by show v.tx.toArray.size≤_;rw [List.size_toArray];exact Nat.le_trans htx (by decide))
  rw [show (⟨v.tx.toArray⟩:ByteArray).data.toList=v.tx by simp,hib] at h
  exact h)
 obtain ⟨r,hr⟩:∃ r,Rf.may 105 v=r:=⟨_,rfl⟩
 rw [hr]
 have HR:=Lib.hid hr
 clear hv hb hbe htx hr
 have hf0:Fr w (w.alloc (.cells #[.int .i64 v.kd,.int .i64 v.nm,.string ⟨v.tx.toArray⟩,.slice B v.ls.length d,.slice B' v.ms.length d'] 25)):=(Fr.refl w).alloc _
 have hx0:Blk (w.alloc (.cells #[.int .i64 v.kd,.int .i64 v.nm,.string ⟨v.tx.toArray⟩,.slice B v.ls.length d,.slice B' v.ms.length d'] 25)) w.heap.size #[.int .i64 v.kd,.int .i64 v.nm,.string ⟨v.tx.toArray⟩,.slice B v.ls.length d,.slice B' v.ms.length d'] 25:=Blk.made w _ _
 have HF0:=Lib.hid hf0
 obtain ⟨⟨x0,x1,x2,x3,x4⟩,_⟩:=box5 hx0
 clear hf0 hx0
 by_cases h1:v.kd=1
 ·have e1:(v.kd == 1)=true:=by rw [beq_iff_eq];exact h1
  have e2:(v.kd == 4)=false:=by rw [h1];rfl
  have H1:=Lib.hid h1
  clear h1
  go_enter Tryz.func31,Tryz.ntmps31
  go_wp2_with fail
  go_ret
  exact ⟨by rw [← HR.out];simp [Rf.may,H1.out],HF0.out⟩
 ·have e1:(v.kd == 1)=false:=by rw [beq_eq_false_iff_ne];exact h1
  by_cases h2:v.kd=4
  ·have e2:(v.kd == 4)=true:=by rw [beq_iff_eq];exact h2
   have HIB:=Lib.hid hib
   clear hib
   have H1:=Lib.hid h1
   clear h1
   have H2:=Lib.hid h2
   clear h2
   go_enter Tryz.func31,Tryz.ntmps31
   go_wp2_with (go_at_call 54;refine (HIS.out _).mono ?_;rintro e w2 ⟨rfl,rfl⟩)
   go_ret
   exact ⟨by rw [← HR.out];simp [Rf.may,H1.out,H2.out,HIB.out],HF0.out⟩
  ·have e2:(v.kd == 4)=false:=by rw [beq_eq_false_iff_ne];exact h2
   have H1:=Lib.hid h1
   clear h1
   have H2:=Lib.hid h2
   clear h2
   go_enter Tryz.func31,Tryz.ntmps31
   go_wp2_with fail
   go_ret
   exact ⟨by rw [← HR.out];simp [Rf.may,H1.out,H2.out],HF0.out⟩
theorem rfmay73_is (v:JV) (B:Option Addr) (d:Nat) (B':Option Addr) (d':Nat) (w:World) (hv:InV w (Lo w.heap.size) v (vA v B d B' d')) (hb:JV.bulk v≤1048576):
  Calls Tryz.prog 31 #[.int .u8 73,.agg #[.int .i64 v.kd,.int .i64 v.nm,.string ⟨v.tx.toArray⟩,.slice B v.ls.length d,.slice B' v.ms.length d']] w fun e w'=>e=.returned (.bool (Rf.may 73 v))∧Fr w w':=by
 have hbe:=Rf.bulk_eq v
 have htx:v.tx.length≤1048576:=by omega
 obtain ⟨ib,hib⟩:∃ b,Idn.isId v.tx=b:=⟨_,rfl⟩
 have HIS:Hid (∀ W,Calls Tryz.prog 54 #[.string ⟨v.tx.toArray⟩] W fun e w'=>e=.returned (.bool ib)∧W=w'):=Lib.hid (fun W=>by
  have h:=is_id_any ⟨v.tx.toArray⟩ W (by show v.tx.toArray.size≤_;rw [List.size_toArray];exact Nat.le_trans htx (by decide))
  rw [show (⟨v.tx.toArray⟩:ByteArray).data.toList=v.tx by simp,hib] at h
  exact h)
 obtain ⟨r,hr⟩:∃ r,Rf.may 73 v=r:=⟨_,rfl⟩
 rw [hr]
 have HR:=Lib.hid hr
 clear hv hb hbe htx hr
 have hf0:Fr w (w.alloc (.cells #[.int .i64 v.kd,.int .i64 v.nm,.string ⟨v.tx.toArray⟩,.slice B v.ls.length d,.slice B' v.ms.length d'] 25)):=(Fr.refl w).alloc _
 have hx0:Blk (w.alloc (.cells #[.int .i64 v.kd,.int .i64 v.nm,.string ⟨v.tx.toArray⟩,.slice B v.ls.length d,.slice B' v.ms.length d'] 25)) w.heap.size #[.int .i64 v.kd,.int .i64 v.nm,.string ⟨v.tx.toArray⟩,.slice B v.ls.length d,.slice B' v.ms.length d'] 25:=Blk.made w _ _
 have HF0:=Lib.hid hf0
 obtain ⟨⟨x0,x1,x2,x3,x4⟩,_⟩:=box5 hx0
 clear hf0 hx0
 by_cases h1:v.kd=1
 ·have e1:(v.kd == 1)=true:=by rw [beq_iff_eq];exact h1
  have e2:(v.kd == 4)=false:=by rw [h1];rfl
  have H1:=Lib.hid h1
  clear h1
  go_enter Tryz.func31,Tryz.ntmps31
  go_wp2_with fail
  go_ret
  exact ⟨by rw [← HR.out];simp [Rf.may,H1.out],HF0.out⟩
 ·have e1:(v.kd == 1)=false:=by rw [beq_eq_false_iff_ne];exact h1
  by_cases h2:v.kd=4
  ·have e2:(v.kd == 4)=true:=by rw [beq_iff_eq];exact h2
   have HIB:=Lib.hid hib
   clear hib
   have H1:=Lib.hid h1
   clear h1
   have H2:=Lib.hid h2
   clear h2
   go_enter Tryz.func31,Tryz.ntmps31
   go_wp2_with (go_at_call 54;refine (HIS.out _).mono ?_;rintro e w2 ⟨rfl,rfl⟩)
   go_ret
   exact ⟨by rw [← HR.out];simp [Rf.may,H1.out,H2.out,HIB.out],HF0.out⟩
  ·have e2:(v.kd == 4)=false:=by rw [beq_eq_false_iff_ne];exact h2
   have H1:=Lib.hid h1
   clear h1
   have H2:=Lib.hid h2
   clear h2
   go_enter Tryz.func31,Tryz.ntmps31
   go_wp2_with fail
   go_ret
   exact ⟨by rw [← HR.out];simp [Rf.may,H1.out,H2.out],HF0.out⟩
theorem rfmay115_is (v:JV) (B:Option Addr) (d:Nat) (B':Option Addr) (d':Nat) (w:World) (hv:InV w (Lo w.heap.size) v (vA v B d B' d')) (hb:JV.bulk v≤1048576):
  Calls Tryz.prog 31 #[.int .u8 115,.agg #[.int .i64 v.kd,.int .i64 v.nm,.string ⟨v.tx.toArray⟩,.slice B v.ls.length d,.slice B' v.ms.length d']] w fun e w'=>e=.returned (.bool (Rf.may 115 v))∧Fr w w':=by
 have hbe:=Rf.bulk_eq v
 have htx:v.tx.length≤1048576:=by omega
 obtain ⟨r,hr⟩:∃ r,Rf.may 115 v=r:=⟨_,rfl⟩
 rw [hr]
 have HR:=Lib.hid hr
 clear hv hb hbe htx hr
 have hf0:Fr w (w.alloc (.cells #[.int .i64 v.kd,.int .i64 v.nm,.string ⟨v.tx.toArray⟩,.slice B v.ls.length d,.slice B' v.ms.length d'] 25)):=(Fr.refl w).alloc _
 have hx0:Blk (w.alloc (.cells #[.int .i64 v.kd,.int .i64 v.nm,.string ⟨v.tx.toArray⟩,.slice B v.ls.length d,.slice B' v.ms.length d'] 25)) w.heap.size #[.int .i64 v.kd,.int .i64 v.nm,.string ⟨v.tx.toArray⟩,.slice B v.ls.length d,.slice B' v.ms.length d'] 25:=Blk.made w _ _
 have HF0:=Lib.hid hf0
 obtain ⟨⟨x0,x1,x2,x3,x4⟩,_⟩:=box5 hx0
 clear hf0 hx0
 by_cases h1:v.kd=1
 ·have e1:(v.kd == 1)=true:=by rw [beq_iff_eq];exact h1
  have e2:(v.kd == 4)=false:=by rw [h1];rfl
  have H1:=Lib.hid h1
  clear h1
  go_enter Tryz.func31,Tryz.ntmps31
  go_wp2_with fail
  go_ret
  exact ⟨by rw [← HR.out];simp [Rf.may,H1.out],HF0.out⟩
 ·have e1:(v.kd == 1)=false:=by rw [beq_eq_false_iff_ne];exact h1
  by_cases h2:v.kd=4
  ·have e2:(v.kd == 4)=true:=by rw [beq_iff_eq];exact h2
   have H1:=Lib.hid h1
   clear h1
   have H2:=Lib.hid h2
   clear h2
   go_enter Tryz.func31,Tryz.ntmps31
   go_wp2_with fail
   go_ret
   exact ⟨by rw [← HR.out];simp [Rf.may,H1.out,H2.out],HF0.out⟩
  ·have e2:(v.kd == 4)=false:=by rw [beq_eq_false_iff_ne];exact h2
   have H1:=Lib.hid h1
   clear h1
   have H2:=Lib.hid h2
   clear h2
   go_enter Tryz.func31,Tryz.ntmps31
   go_wp2_with fail
   go_ret
   exact ⟨by rw [← HR.out];simp [Rf.may,H1.out,H2.out],HF0.out⟩
theorem rfmay83_is (v:JV) (B:Option Addr) (d:Nat) (B':Option Addr) (d':Nat) (w:World) (hv:InV w (Lo w.heap.size) v (vA v B d B' d')) (hb:JV.bulk v≤1048576):
  Calls Tryz.prog 31 #[.int .u8 83,.agg #[.int .i64 v.kd,.int .i64 v.nm,.string ⟨v.tx.toArray⟩,.slice B v.ls.length d,.slice B' v.ms.length d']] w fun e w'=>e=.returned (.bool (Rf.may 83 v))∧Fr w w':=by
 have hbe:=Rf.bulk_eq v
 have htx:v.tx.length≤1048576:=by omega
 obtain ⟨r,hr⟩:∃ r,Rf.may 83 v=r:=⟨_,rfl⟩
 rw [hr]
 have HR:=Lib.hid hr
 clear hv hb hbe htx hr
 have hf0:Fr w (w.alloc (.cells #[.int .i64 v.kd,.int .i64 v.nm,.string ⟨v.tx.toArray⟩,.slice B v.ls.length d,.slice B' v.ms.length d'] 25)):=(Fr.refl w).alloc _
 have hx0:Blk (w.alloc (.cells #[.int .i64 v.kd,.int .i64 v.nm,.string ⟨v.tx.toArray⟩,.slice B v.ls.length d,.slice B' v.ms.length d'] 25)) w.heap.size #[.int .i64 v.kd,.int .i64 v.nm,.string ⟨v.tx.toArray⟩,.slice B v.ls.length d,.slice B' v.ms.length d'] 25:=Blk.made w _ _
 have HF0:=Lib.hid hf0
 obtain ⟨⟨x0,x1,x2,x3,x4⟩,_⟩:=box5 hx0
 clear hf0 hx0
 by_cases h1:v.kd=1
 ·have e1:(v.kd == 1)=true:=by rw [beq_iff_eq];exact h1
  have e2:(v.kd == 4)=false:=by rw [h1];rfl
  have H1:=Lib.hid h1
  clear h1
  go_enter Tryz.func31,Tryz.ntmps31
  go_wp2_with fail
  go_ret
  exact ⟨by rw [← HR.out];simp [Rf.may,H1.out],HF0.out⟩
 ·have e1:(v.kd == 1)=false:=by rw [beq_eq_false_iff_ne];exact h1
  by_cases h2:v.kd=4
  ·have e2:(v.kd == 4)=true:=by rw [beq_iff_eq];exact h2
   have H1:=Lib.hid h1
   clear h1
   have H2:=Lib.hid h2
   clear h2
   go_enter Tryz.func31,Tryz.ntmps31
   go_wp2_with fail
   go_ret
   exact ⟨by rw [← HR.out];simp [Rf.may,H1.out,H2.out],HF0.out⟩
  ·have e2:(v.kd == 4)=false:=by rw [beq_eq_false_iff_ne];exact h2
   have H1:=Lib.hid h1
   clear h1
   have H2:=Lib.hid h2
   clear h2
   go_enter Tryz.func31,Tryz.ntmps31
   go_wp2_with fail
   go_ret
   exact ⟨by rw [← HR.out];simp [Rf.may,H1.out,H2.out],HF0.out⟩
theorem rfmay118_is (v:JV) (B:Option Addr) (d:Nat) (B':Option Addr) (d':Nat) (w:World) (hv:InV w (Lo w.heap.size) v (vA v B d B' d')) (hb:JV.bulk v≤1048576):
  Calls Tryz.prog 31 #[.int .u8 118,.agg #[.int .i64 v.kd,.int .i64 v.nm,.string ⟨v.tx.toArray⟩,.slice B v.ls.length d,.slice B' v.ms.length d']] w fun e w'=>e=.returned (.bool (Rf.may 118 v))∧Fr w w':=by
 have hbe:=Rf.bulk_eq v
 have htx:v.tx.length≤1048576:=by omega
 obtain ⟨r,hr⟩:∃ r,Rf.may 118 v=r:=⟨_,rfl⟩
 rw [hr]
 have HR:=Lib.hid hr
 clear hv hb hbe htx hr
 have hf0:Fr w (w.alloc (.cells #[.int .i64 v.kd,.int .i64 v.nm,.string ⟨v.tx.toArray⟩,.slice B v.ls.length d,.slice B' v.ms.length d'] 25)):=(Fr.refl w).alloc _
 have hx0:Blk (w.alloc (.cells #[.int .i64 v.kd,.int .i64 v.nm,.string ⟨v.tx.toArray⟩,.slice B v.ls.length d,.slice B' v.ms.length d'] 25)) w.heap.size #[.int .i64 v.kd,.int .i64 v.nm,.string ⟨v.tx.toArray⟩,.slice B v.ls.length d,.slice B' v.ms.length d'] 25:=Blk.made w _ _
 have HF0:=Lib.hid hf0
 obtain ⟨⟨x0,x1,x2,x3,x4⟩,_⟩:=box5 hx0
 clear hf0 hx0
 by_cases h1:v.kd=1
 ·have e1:(v.kd == 1)=true:=by rw [beq_iff_eq];exact h1
  have e2:(v.kd == 6)=false:=by rw [h1];rfl
  have H1:=Lib.hid h1
  clear h1
  go_enter Tryz.func31,Tryz.ntmps31
  go_wp2_with fail
  go_ret
  exact ⟨by rw [← HR.out];simp [Rf.may,H1.out],HF0.out⟩
 ·have e1:(v.kd == 1)=false:=by rw [beq_eq_false_iff_ne];exact h1
  by_cases h2:v.kd=6
  ·have e2:(v.kd == 6)=true:=by rw [beq_iff_eq];exact h2
   have H1:=Lib.hid h1
   clear h1
   have H2:=Lib.hid h2
   clear h2
   go_enter Tryz.func31,Tryz.ntmps31
   go_wp2_with fail
   go_ret
   exact ⟨by rw [← HR.out];simp [Rf.may,H1.out,H2.out],HF0.out⟩
  ·have e2:(v.kd == 6)=false:=by rw [beq_eq_false_iff_ne];exact h2
   have H1:=Lib.hid h1
   clear h1
   have H2:=Lib.hid h2
   clear h2
   go_enter Tryz.func31,Tryz.ntmps31
   go_wp2_with fail
   go_ret
   exact ⟨by rw [← HR.out];simp [Rf.may,H1.out,H2.out],HF0.out⟩
theorem rfmay86_is (v:JV) (B:Option Addr) (d:Nat) (B':Option Addr) (d':Nat) (w:World) (hv:InV w (Lo w.heap.size) v (vA v B d B' d')) (hb:JV.bulk v≤1048576):
  Calls Tryz.prog 31 #[.int .u8 86,.agg #[.int .i64 v.kd,.int .i64 v.nm,.string ⟨v.tx.toArray⟩,.slice B v.ls.length d,.slice B' v.ms.length d']] w fun e w'=>e=.returned (.bool (Rf.may 86 v))∧Fr w w':=by
 have hbe:=Rf.bulk_eq v
 have htx:v.tx.length≤1048576:=by omega
 obtain ⟨r,hr⟩:∃ r,Rf.may 86 v=r:=⟨_,rfl⟩
 rw [hr]
 have HR:=Lib.hid hr
 clear hv hb hbe htx hr
 have hf0:Fr w (w.alloc (.cells #[.int .i64 v.kd,.int .i64 v.nm,.string ⟨v.tx.toArray⟩,.slice B v.ls.length d,.slice B' v.ms.length d'] 25)):=(Fr.refl w).alloc _
 have hx0:Blk (w.alloc (.cells #[.int .i64 v.kd,.int .i64 v.nm,.string ⟨v.tx.toArray⟩,.slice B v.ls.length d,.slice B' v.ms.length d'] 25)) w.heap.size #[.int .i64 v.kd,.int .i64 v.nm,.string ⟨v.tx.toArray⟩,.slice B v.ls.length d,.slice B' v.ms.length d'] 25:=Blk.made w _ _
 have HF0:=Lib.hid hf0
 obtain ⟨⟨x0,x1,x2,x3,x4⟩,_⟩:=box5 hx0
 clear hf0 hx0
 by_cases h1:v.kd=1
 ·have e1:(v.kd == 1)=true:=by rw [beq_iff_eq];exact h1
  have e2:(v.kd == 6)=false:=by rw [h1];rfl
  have H1:=Lib.hid h1
  clear h1
  go_enter Tryz.func31,Tryz.ntmps31
  go_wp2_with fail
  go_ret
  exact ⟨by rw [← HR.out];simp [Rf.may,H1.out],HF0.out⟩
 ·have e1:(v.kd == 1)=false:=by rw [beq_eq_false_iff_ne];exact h1
  by_cases h2:v.kd=6
  ·have e2:(v.kd == 6)=true:=by rw [beq_iff_eq];exact h2
   have H1:=Lib.hid h1
   clear h1
   have H2:=Lib.hid h2
   clear h2
   go_enter Tryz.func31,Tryz.ntmps31
   go_wp2_with fail
   go_ret
   exact ⟨by rw [← HR.out];simp [Rf.may,H1.out,H2.out],HF0.out⟩
  ·have e2:(v.kd == 6)=false:=by rw [beq_eq_false_iff_ne];exact h2
   have H1:=Lib.hid h1
   clear h1
   have H2:=Lib.hid h2
   clear h2
   go_enter Tryz.func31,Tryz.ntmps31
   go_wp2_with fail
   go_ret
   exact ⟨by rw [← HR.out];simp [Rf.may,H1.out,H2.out],HF0.out⟩
theorem rfmay119_is (v:JV) (B:Option Addr) (d:Nat) (B':Option Addr) (d':Nat) (w:World) (hv:InV w (Lo w.heap.size) v (vA v B d B' d')) (hb:JV.bulk v≤1048576):
  Calls Tryz.prog 31 #[.int .u8 119,.agg #[.int .i64 v.kd,.int .i64 v.nm,.string ⟨v.tx.toArray⟩,.slice B v.ls.length d,.slice B' v.ms.length d']] w fun e w'=>e=.returned (.bool (Rf.may 119 v))∧Fr w w':=by
 have hbe:=Rf.bulk_eq v
 have htx:v.tx.length≤1048576:=by omega
 obtain ⟨r,hr⟩:∃ r,Rf.may 119 v=r:=⟨_,rfl⟩
 rw [hr]
 have HR:=Lib.hid hr
 clear hv hb hbe htx hr
 have hf0:Fr w (w.alloc (.cells #[.int .i64 v.kd,.int .i64 v.nm,.string ⟨v.tx.toArray⟩,.slice B v.ls.length d,.slice B' v.ms.length d'] 25)):=(Fr.refl w).alloc _
 have hx0:Blk (w.alloc (.cells #[.int .i64 v.kd,.int .i64 v.nm,.string ⟨v.tx.toArray⟩,.slice B v.ls.length d,.slice B' v.ms.length d'] 25)) w.heap.size #[.int .i64 v.kd,.int .i64 v.nm,.string ⟨v.tx.toArray⟩,.slice B v.ls.length d,.slice B' v.ms.length d'] 25:=Blk.made w _ _
 have HF0:=Lib.hid hf0
 obtain ⟨⟨x0,x1,x2,x3,x4⟩,_⟩:=box5 hx0
 clear hf0 hx0
 by_cases h1:v.kd=1
 ·have e1:(v.kd == 1)=true:=by rw [beq_iff_eq];exact h1
  have H1:=Lib.hid h1
  clear h1
  go_enter Tryz.func31,Tryz.ntmps31
  go_wp2_with fail
  go_ret
  exact ⟨by rw [← HR.out];simp [Rf.may,H1.out],HF0.out⟩
 ·have e1:(v.kd == 1)=false:=by rw [beq_eq_false_iff_ne];exact h1
  have H1:=Lib.hid h1
  clear h1
  go_enter Tryz.func31,Tryz.ntmps31
  go_wp2_with fail
  go_ret
  exact ⟨by rw [← HR.out];simp [Rf.may,H1.out],HF0.out⟩
theorem rfmay108_is (v:JV) (B:Option Addr) (d:Nat) (B':Option Addr) (d':Nat) (w:World) (hv:InV w (Lo w.heap.size) v (vA v B d B' d')) (hb:JV.bulk v≤1048576):
  Calls Tryz.prog 31 #[.int .u8 108,.agg #[.int .i64 v.kd,.int .i64 v.nm,.string ⟨v.tx.toArray⟩,.slice B v.ls.length d,.slice B' v.ms.length d']] w fun e w'=>e=.returned (.bool (Rf.may 108 v))∧Fr w w':=by
 have hbe:=Rf.bulk_eq v
 have htx:v.tx.length≤1048576:=by omega
 obtain ⟨tb,htb⟩:∃ b,Rf.textsB 108 v=b:=⟨_,rfl⟩
 have HTX:Hid (∀ W,Fr w W→Calls Tryz.prog 55 #[.agg #[.int .i64 v.kd,.int .i64 v.nm,.string ⟨v.tx.toArray⟩,.slice B v.ls.length d,.slice B' v.ms.length d'],(Value.func (.func 54) #[] #[])] W fun e w'=>e=.returned (.bool tb)∧Fr W w'):=Lib.hid (fun W hW=>by
  rw [← htb]
  exact texts_is 108 54 (by simp) v B d B' d' W (hv.keep (Nat.le_refl _) hW |>.lo hW.size) hb)
 obtain ⟨r,hr⟩:∃ r,Rf.may 108 v=r:=⟨_,rfl⟩
 rw [hr]
 have HR:=Lib.hid hr
 clear hv hb hbe htx hr
 have hf0:Fr w (w.alloc (.cells #[.int .i64 v.kd,.int .i64 v.nm,.string ⟨v.tx.toArray⟩,.slice B v.ls.length d,.slice B' v.ms.length d'] 25)):=(Fr.refl w).alloc _
 have hx0:Blk (w.alloc (.cells #[.int .i64 v.kd,.int .i64 v.nm,.string ⟨v.tx.toArray⟩,.slice B v.ls.length d,.slice B' v.ms.length d'] 25)) w.heap.size #[.int .i64 v.kd,.int .i64 v.nm,.string ⟨v.tx.toArray⟩,.slice B v.ls.length d,.slice B' v.ms.length d'] 25:=Blk.made w _ _
 have HF0:=Lib.hid hf0
 obtain ⟨⟨x0,x1,x2,x3,x4⟩,_⟩:=box5 hx0
 clear hf0 hx0
 by_cases h1:v.kd=1
 ·have e1:(v.kd == 1)=true:=by rw [beq_iff_eq];exact h1
  have H1:=Lib.hid h1
  clear h1
  go_enter Tryz.func31,Tryz.ntmps31
  go_wp2_with fail
  go_ret
  exact ⟨by rw [← HR.out];simp [Rf.may,H1.out],HF0.out⟩
 ·have e1:(v.kd == 1)=false:=by rw [beq_eq_false_iff_ne];exact h1
  have HTB:=Lib.hid htb
  clear htb
  have H1:=Lib.hid h1
  clear h1
  go_enter Tryz.func31,Tryz.ntmps31
  go_wp2_with (go_at_call 55;refine (HTX.out _ HF0.out).mono ?_;rintro e w2 ⟨rfl,hf⟩;have HF2:=Lib.hid (HF0.out.trans hf);clear hf)
  go_ret
  exact ⟨by rw [← HR.out];simp [Rf.may,H1.out,HTB.out],HF2.out⟩
theorem rfmay114_is (v:JV) (B:Option Addr) (d:Nat) (B':Option Addr) (d':Nat) (w:World) (hv:InV w (Lo w.heap.size) v (vA v B d B' d')) (hb:JV.bulk v≤1048576):
  Calls Tryz.prog 31 #[.int .u8 114,.agg #[.int .i64 v.kd,.int .i64 v.nm,.string ⟨v.tx.toArray⟩,.slice B v.ls.length d,.slice B' v.ms.length d']] w fun e w'=>e=.returned (.bool (Rf.may 114 v))∧Fr w w':=by
 have hbe:=Rf.bulk_eq v
 have htx:v.tx.length≤1048576:=by omega
 obtain ⟨tb,htb⟩:∃ b,Rf.textsB 114 v=b:=⟨_,rfl⟩
 have HTX:Hid (∀ W,Fr w W→Calls Tryz.prog 55 #[.agg #[.int .i64 v.kd,.int .i64 v.nm,.string ⟨v.tx.toArray⟩,.slice B v.ls.length d,.slice B' v.ms.length d'],(Value.func (.func 56) #[] #[])] W fun e w'=>e=.returned (.bool tb)∧Fr W w'):=Lib.hid (fun W hW=>by
  rw [← htb]
  exact texts_is 114 56 (by simp) v B d B' d' W (hv.keep (Nat.le_refl _) hW |>.lo hW.size) hb)
 obtain ⟨r,hr⟩:∃ r,Rf.may 114 v=r:=⟨_,rfl⟩
 rw [hr]
 have HR:=Lib.hid hr
 clear hv hb hbe htx hr
 have hf0:Fr w (w.alloc (.cells #[.int .i64 v.kd,.int .i64 v.nm,.string ⟨v.tx.toArray⟩,.slice B v.ls.length d,.slice B' v.ms.length d'] 25)):=(Fr.refl w).alloc _
 have hx0:Blk (w.alloc (.cells #[.int .i64 v.kd,.int .i64 v.nm,.string ⟨v.tx.toArray⟩,.slice B v.ls.length d,.slice B' v.ms.length d'] 25)) w.heap.size #[.int .i64 v.kd,.int .i64 v.nm,.string ⟨v.tx.toArray⟩,.slice B v.ls.length d,.slice B' v.ms.length d'] 25:=Blk.made w _ _
 have HF0:=Lib.hid hf0
 obtain ⟨⟨x0,x1,x2,x3,x4⟩,_⟩:=box5 hx0
 clear hf0 hx0
 by_cases h1:v.kd=1
 ·have e1:(v.kd == 1)=true:=by rw [beq_iff_eq];exact h1
  have H1:=Lib.hid h1
  clear h1
  go_enter Tryz.func31,Tryz.ntmps31
  go_wp2_with fail
  go_ret
  exact ⟨by rw [← HR.out];simp [Rf.may,H1.out],HF0.out⟩
 ·have e1:(v.kd == 1)=false:=by rw [beq_eq_false_iff_ne];exact h1
  have HTB:=Lib.hid htb
  clear htb
  have H1:=Lib.hid h1
  clear h1
  go_enter Tryz.func31,Tryz.ntmps31
  go_wp2_with (go_at_call 55;refine (HTX.out _ HF0.out).mono ?_;rintro e w2 ⟨rfl,hf⟩;have HF2:=Lib.hid (HF0.out.trans hf);clear hf)
  go_ret
  exact ⟨by rw [← HR.out];simp [Rf.may,H1.out,HTB.out],HF2.out⟩
theorem rfmay116_is (v:JV) (B:Option Addr) (d:Nat) (B':Option Addr) (d':Nat) (w:World) (hv:InV w (Lo w.heap.size) v (vA v B d B' d')) (hb:JV.bulk v≤1048576):
  Calls Tryz.prog 31 #[.int .u8 116,.agg #[.int .i64 v.kd,.int .i64 v.nm,.string ⟨v.tx.toArray⟩,.slice B v.ls.length d,.slice B' v.ms.length d']] w fun e w'=>e=.returned (.bool (Rf.may 116 v))∧Fr w w':=by
 have hbe:=Rf.bulk_eq v
 have htx:v.tx.length≤1048576:=by omega
 obtain ⟨tb,htb⟩:∃ b,Rf.textsB 116 v=b:=⟨_,rfl⟩
 have HTX:Hid (∀ W,Fr w W→Calls Tryz.prog 55 #[.agg #[.int .i64 v.kd,.int .i64 v.nm,.string ⟨v.tx.toArray⟩,.slice B v.ls.length d,.slice B' v.ms.length d'],(Value.func (.func 58) #[] #[])] W fun e w'=>e=.returned (.bool tb)∧Fr W w'):=Lib.hid (fun W hW=>by
  rw [← htb]
  exact texts_is 116 58 (by simp) v B d B' d' W (hv.keep (Nat.le_refl _) hW |>.lo hW.size) hb)
 obtain ⟨r,hr⟩:∃ r,Rf.may 116 v=r:=⟨_,rfl⟩
 rw [hr]
 have HR:=Lib.hid hr
 clear hv hb hbe htx hr
 have hf0:Fr w (w.alloc (.cells #[.int .i64 v.kd,.int .i64 v.nm,.string ⟨v.tx.toArray⟩,.slice B v.ls.length d,.slice B' v.ms.length d'] 25)):=(Fr.refl w).alloc _
 have hx0:Blk (w.alloc (.cells #[.int .i64 v.kd,.int .i64 v.nm,.string ⟨v.tx.toArray⟩,.slice B v.ls.length d,.slice B' v.ms.length d'] 25)) w.heap.size #[.int .i64 v.kd,.int .i64 v.nm,.string ⟨v.tx.toArray⟩,.slice B v.ls.length d,.slice B' v.ms.length d'] 25:=Blk.made w _ _
 have HF0:=Lib.hid hf0
 obtain ⟨⟨x0,x1,x2,x3,x4⟩,_⟩:=box5 hx0
 clear hf0 hx0
 by_cases h1:v.kd=1
 ·have e1:(v.kd == 1)=true:=by rw [beq_iff_eq];exact h1
  have H1:=Lib.hid h1
  clear h1
  go_enter Tryz.func31,Tryz.ntmps31
  go_wp2_with fail
  go_ret
  exact ⟨by rw [← HR.out];simp [Rf.may,H1.out],HF0.out⟩
 ·have e1:(v.kd == 1)=false:=by rw [beq_eq_false_iff_ne];exact h1
  have HTB:=Lib.hid htb
  clear htb
  have H1:=Lib.hid h1
  clear h1
  go_enter Tryz.func31,Tryz.ntmps31
  go_wp2_with (go_at_call 55;refine (HTX.out _ HF0.out).mono ?_;rintro e w2 ⟨rfl,hf⟩;have HF2:=Lib.hid (HF0.out.trans hf);clear hf)
  go_ret
  exact ⟨by rw [← HR.out];simp [Rf.may,H1.out,HTB.out],HF2.out⟩
theorem rfmay110_is (v:JV) (B:Option Addr) (d:Nat) (B':Option Addr) (d':Nat) (w:World) (hv:InV w (Lo w.heap.size) v (vA v B d B' d')) (hb:JV.bulk v≤1048576):
  Calls Tryz.prog 31 #[.int .u8 110,.agg #[.int .i64 v.kd,.int .i64 v.nm,.string ⟨v.tx.toArray⟩,.slice B v.ls.length d,.slice B' v.ms.length d']] w fun e w'=>e=.returned (.bool (Rf.may 110 v))∧Fr w w':=by
 have hbe:=Rf.bulk_eq v
 have htx:v.tx.length≤1048576:=by omega
 obtain ⟨r,hr⟩:∃ r,Rf.may 110 v=r:=⟨_,rfl⟩
 rw [hr]
 have HR:=Lib.hid hr
 clear hv hb hbe htx hr
 have hf0:Fr w (w.alloc (.cells #[.int .i64 v.kd,.int .i64 v.nm,.string ⟨v.tx.toArray⟩,.slice B v.ls.length d,.slice B' v.ms.length d'] 25)):=(Fr.refl w).alloc _
 have hx0:Blk (w.alloc (.cells #[.int .i64 v.kd,.int .i64 v.nm,.string ⟨v.tx.toArray⟩,.slice B v.ls.length d,.slice B' v.ms.length d'] 25)) w.heap.size #[.int .i64 v.kd,.int .i64 v.nm,.string ⟨v.tx.toArray⟩,.slice B v.ls.length d,.slice B' v.ms.length d'] 25:=Blk.made w _ _
 have HF0:=Lib.hid hf0
 obtain ⟨⟨x0,x1,x2,x3,x4⟩,_⟩:=box5 hx0
 clear hf0 hx0
 by_cases h1:v.kd=1
 ·have e1:(v.kd == 1)=true:=by rw [beq_iff_eq];exact h1
  have e2:(v.kd == 3)=false:=by rw [h1];rfl
  have H1:=Lib.hid h1
  clear h1
  go_enter Tryz.func31,Tryz.ntmps31
  go_wp2_with fail
  go_ret
  exact ⟨by rw [← HR.out];simp [Rf.may,H1.out],HF0.out⟩
 ·have e1:(v.kd == 1)=false:=by rw [beq_eq_false_iff_ne];exact h1
  by_cases h2:v.kd=3
  ·have e2:(v.kd == 3)=true:=by rw [beq_iff_eq];exact h2
   by_cases h3:0≤v.nm
   ·have e3:decide (v.nm ≥ 0)=true:=decide_eq_true h3
    have H1:=Lib.hid h1
    clear h1
    have H2:=Lib.hid h2
    clear h2
    have H3:=Lib.hid h3
    clear h3
    go_enter Tryz.func31,Tryz.ntmps31
    go_wp2_with fail
    go_ret
    exact ⟨by rw [← HR.out];simp [Rf.may,H1.out,H2.out,H3.out],HF0.out⟩
   ·have e3:decide (v.nm ≥ 0)=false:=decide_eq_false h3
    have e4:v.nm<0:=by omega
    have H1:=Lib.hid h1
    clear h1
    have H2:=Lib.hid h2
    clear h2
    have H3:=Lib.hid h3
    clear h3
    go_enter Tryz.func31,Tryz.ntmps31
    go_wp2_with fail
    go_ret
    exact ⟨by rw [← HR.out];simp [Rf.may,H1.out,H2.out,H3.out],HF0.out⟩
  ·have e2:(v.kd == 3)=false:=by rw [beq_eq_false_iff_ne];exact h2
   have H1:=Lib.hid h1
   clear h1
   have H2:=Lib.hid h2
   clear h2
   go_enter Tryz.func31,Tryz.ntmps31
   go_wp2_with fail
   go_ret
   exact ⟨by rw [← HR.out];simp [Rf.may,H1.out,H2.out],HF0.out⟩
theorem rfmay112_is (v:JV) (B:Option Addr) (d:Nat) (B':Option Addr) (d':Nat) (w:World) (hv:InV w (Lo w.heap.size) v (vA v B d B' d')) (hb:JV.bulk v≤1048576):
  Calls Tryz.prog 31 #[.int .u8 112,.agg #[.int .i64 v.kd,.int .i64 v.nm,.string ⟨v.tx.toArray⟩,.slice B v.ls.length d,.slice B' v.ms.length d']] w fun e w'=>e=.returned (.bool (Rf.may 112 v))∧Fr w w':=by
 have hbe:=Rf.bulk_eq v
 have htx:v.tx.length≤1048576:=by omega
 obtain ⟨r,hr⟩:∃ r,Rf.may 112 v=r:=⟨_,rfl⟩
 rw [hr]
 have HR:=Lib.hid hr
 clear hv hb hbe htx hr
 have hf0:Fr w (w.alloc (.cells #[.int .i64 v.kd,.int .i64 v.nm,.string ⟨v.tx.toArray⟩,.slice B v.ls.length d,.slice B' v.ms.length d'] 25)):=(Fr.refl w).alloc _
 have hx0:Blk (w.alloc (.cells #[.int .i64 v.kd,.int .i64 v.nm,.string ⟨v.tx.toArray⟩,.slice B v.ls.length d,.slice B' v.ms.length d'] 25)) w.heap.size #[.int .i64 v.kd,.int .i64 v.nm,.string ⟨v.tx.toArray⟩,.slice B v.ls.length d,.slice B' v.ms.length d'] 25:=Blk.made w _ _
 have HF0:=Lib.hid hf0
 obtain ⟨⟨x0,x1,x2,x3,x4⟩,_⟩:=box5 hx0
 clear hf0 hx0
 by_cases h1:v.kd=1
 ·have e1:(v.kd == 1)=true:=by rw [beq_iff_eq];exact h1
  have e2:(v.kd == 3)=false:=by rw [h1];rfl
  have H1:=Lib.hid h1
  clear h1
  go_enter Tryz.func31,Tryz.ntmps31
  go_wp2_with fail
  go_ret
  exact ⟨by rw [← HR.out];simp [Rf.may,H1.out],HF0.out⟩
 ·have e1:(v.kd == 1)=false:=by rw [beq_eq_false_iff_ne];exact h1
  by_cases h2:v.kd=3
  ·have e2:(v.kd == 3)=true:=by rw [beq_iff_eq];exact h2
   by_cases h3:1≤v.nm
   ·have e3:decide (v.nm ≥ 1)=true:=decide_eq_true h3
    have H1:=Lib.hid h1
    clear h1
    have H2:=Lib.hid h2
    clear h2
    have H3:=Lib.hid h3
    clear h3
    go_enter Tryz.func31,Tryz.ntmps31
    go_wp2_with fail
    go_ret
    exact ⟨by rw [← HR.out];simp [Rf.may,H1.out,H2.out,H3.out],HF0.out⟩
   ·have e3:decide (v.nm ≥ 1)=false:=decide_eq_false h3
    have e4:v.nm<1:=by omega
    have H1:=Lib.hid h1
    clear h1
    have H2:=Lib.hid h2
    clear h2
    have H3:=Lib.hid h3
    clear h3
    go_enter Tryz.func31,Tryz.ntmps31
    go_wp2_with fail
    go_ret
    exact ⟨by rw [← HR.out];simp [Rf.may,H1.out,H2.out,H3.out],HF0.out⟩
  ·have e2:(v.kd == 3)=false:=by rw [beq_eq_false_iff_ne];exact h2
   have H1:=Lib.hid h1
   clear h1
   have H2:=Lib.hid h2
   clear h2
   go_enter Tryz.func31,Tryz.ntmps31
   go_wp2_with fail
   go_ret
   exact ⟨by rw [← HR.out];simp [Rf.may,H1.out,H2.out],HF0.out⟩
theorem rfmay122_is (v:JV) (B:Option Addr) (d:Nat) (B':Option Addr) (d':Nat) (w:World) (hv:InV w (Lo w.heap.size) v (vA v B d B' d')) (hb:JV.bulk v≤1048576):
  Calls Tryz.prog 31 #[.int .u8 122,.agg #[.int .i64 v.kd,.int .i64 v.nm,.string ⟨v.tx.toArray⟩,.slice B v.ls.length d,.slice B' v.ms.length d']] w fun e w'=>e=.returned (.bool (Rf.may 122 v))∧Fr w w':=by
 have hbe:=Rf.bulk_eq v
 have htx:v.tx.length≤1048576:=by omega
 obtain ⟨r,hr⟩:∃ r,Rf.may 122 v=r:=⟨_,rfl⟩
 rw [hr]
 have HR:=Lib.hid hr
 clear hv hb hbe htx hr
 have hf0:Fr w (w.alloc (.cells #[.int .i64 v.kd,.int .i64 v.nm,.string ⟨v.tx.toArray⟩,.slice B v.ls.length d,.slice B' v.ms.length d'] 25)):=(Fr.refl w).alloc _
 have hx0:Blk (w.alloc (.cells #[.int .i64 v.kd,.int .i64 v.nm,.string ⟨v.tx.toArray⟩,.slice B v.ls.length d,.slice B' v.ms.length d'] 25)) w.heap.size #[.int .i64 v.kd,.int .i64 v.nm,.string ⟨v.tx.toArray⟩,.slice B v.ls.length d,.slice B' v.ms.length d'] 25:=Blk.made w _ _
 have HF0:=Lib.hid hf0
 obtain ⟨⟨x0,x1,x2,x3,x4⟩,_⟩:=box5 hx0
 clear hf0 hx0
 by_cases h1:v.kd=1
 ·have e1:(v.kd == 1)=true:=by rw [beq_iff_eq];exact h1
  have e2:(v.kd == 3)=false:=by rw [h1];rfl
  have H1:=Lib.hid h1
  clear h1
  go_enter Tryz.func31,Tryz.ntmps31
  go_wp2_with fail
  go_ret
  exact ⟨by rw [← HR.out];simp [Rf.may,H1.out],HF0.out⟩
 ·have e1:(v.kd == 1)=false:=by rw [beq_eq_false_iff_ne];exact h1
  by_cases h2:v.kd=3
  ·have e2:(v.kd == 3)=true:=by rw [beq_iff_eq];exact h2
   have H1:=Lib.hid h1
   clear h1
   have H2:=Lib.hid h2
   clear h2
   go_enter Tryz.func31,Tryz.ntmps31
   go_wp2_with fail
   go_ret
   exact ⟨by rw [← HR.out];simp [Rf.may,H1.out,H2.out],HF0.out⟩
  ·have e2:(v.kd == 3)=false:=by rw [beq_eq_false_iff_ne];exact h2
   have H1:=Lib.hid h1
   clear h1
   have H2:=Lib.hid h2
   clear h2
   go_enter Tryz.func31,Tryz.ntmps31
   go_wp2_with fail
   go_ret
   exact ⟨by rw [← HR.out];simp [Rf.may,H1.out,H2.out],HF0.out⟩
theorem rfmay98_is (v:JV) (B:Option Addr) (d:Nat) (B':Option Addr) (d':Nat) (w:World) (hv:InV w (Lo w.heap.size) v (vA v B d B' d')) (hb:JV.bulk v≤1048576):
  Calls Tryz.prog 31 #[.int .u8 98,.agg #[.int .i64 v.kd,.int .i64 v.nm,.string ⟨v.tx.toArray⟩,.slice B v.ls.length d,.slice B' v.ms.length d']] w fun e w'=>e=.returned (.bool (Rf.may 98 v))∧Fr w w':=by
 have hbe:=Rf.bulk_eq v
 have htx:v.tx.length≤1048576:=by omega
 obtain ⟨r,hr⟩:∃ r,Rf.may 98 v=r:=⟨_,rfl⟩
 rw [hr]
 have HR:=Lib.hid hr
 clear hv hb hbe htx hr
 have hf0:Fr w (w.alloc (.cells #[.int .i64 v.kd,.int .i64 v.nm,.string ⟨v.tx.toArray⟩,.slice B v.ls.length d,.slice B' v.ms.length d'] 25)):=(Fr.refl w).alloc _
 have hx0:Blk (w.alloc (.cells #[.int .i64 v.kd,.int .i64 v.nm,.string ⟨v.tx.toArray⟩,.slice B v.ls.length d,.slice B' v.ms.length d'] 25)) w.heap.size #[.int .i64 v.kd,.int .i64 v.nm,.string ⟨v.tx.toArray⟩,.slice B v.ls.length d,.slice B' v.ms.length d'] 25:=Blk.made w _ _
 have HF0:=Lib.hid hf0
 obtain ⟨⟨x0,x1,x2,x3,x4⟩,_⟩:=box5 hx0
 clear hf0 hx0
 by_cases h1:v.kd=1
 ·have e1:(v.kd == 1)=true:=by rw [beq_iff_eq];exact h1
  have e2:(v.kd == 2)=false:=by rw [h1];rfl
  have H1:=Lib.hid h1
  clear h1
  go_enter Tryz.func31,Tryz.ntmps31
  go_wp2_with fail
  go_ret
  exact ⟨by rw [← HR.out];simp [Rf.may,H1.out],HF0.out⟩
 ·have e1:(v.kd == 1)=false:=by rw [beq_eq_false_iff_ne];exact h1
  by_cases h2:v.kd=2
  ·have e2:(v.kd == 2)=true:=by rw [beq_iff_eq];exact h2
   have H1:=Lib.hid h1
   clear h1
   have H2:=Lib.hid h2
   clear h2
   go_enter Tryz.func31,Tryz.ntmps31
   go_wp2_with fail
   go_ret
   exact ⟨by rw [← HR.out];simp [Rf.may,H1.out,H2.out],HF0.out⟩
  ·have e2:(v.kd == 2)=false:=by rw [beq_eq_false_iff_ne];exact h2
   have H1:=Lib.hid h1
   clear h1
   have H2:=Lib.hid h2
   clear h2
   go_enter Tryz.func31,Tryz.ntmps31
   go_wp2_with fail
   go_ret
   exact ⟨by rw [← HR.out];simp [Rf.may,H1.out,H2.out],HF0.out⟩
def Rf.letters:List UInt8:=[105,73,115,83,118,86,119,108,114,116,110,112,122,98]
theorem rfmay_is (c:UInt8) (hc:c∈Rf.letters) (v:JV) (B:Option Addr) (d:Nat) (B':Option Addr) (d':Nat) (w:World) (hv:InV w (Lo w.heap.size) v (vA v B d B' d')) (hb:JV.bulk v≤1048576):
  Calls Tryz.prog 31 #[.int .u8 (c.toNat:Nat),.agg #[.int .i64 v.kd,.int .i64 v.nm,.string ⟨v.tx.toArray⟩,.slice B v.ls.length d,.slice B' v.ms.length d']] w fun e w'=>e=.returned (.bool (Rf.may c v))∧Fr w w':=by
 simp only [Rf.letters,List.mem_cons,List.not_mem_nil,or_false] at hc
 rcases hc with rfl | rfl | rfl | rfl | rfl | rfl | rfl | rfl | rfl | rfl | rfl | rfl | rfl | rfl
 ·exact rfmay105_is v B d B' d' w hv hb
 ·exact rfmay73_is v B d B' d' w hv hb
 ·exact rfmay115_is v B d B' d' w hv hb
 ·exact rfmay83_is v B d B' d' w hv hb
 ·exact rfmay118_is v B d B' d' w hv hb
 ·exact rfmay86_is v B d B' d' w hv hb
 ·exact rfmay119_is v B d B' d' w hv hb
 ·exact rfmay108_is v B d B' d' w hv hb
 ·exact rfmay114_is v B d B' d' w hv hb
 ·exact rfmay116_is v B d B' d' w hv hb
 ·exact rfmay110_is v B d B' d' w hv hb
 ·exact rfmay112_is v B d B' d' w hv hb
 ·exact rfmay122_is v B d B' d' w hv hb
 ·exact rfmay98_is v B d B' d' w hv hb
/- The walk of refs.Args. -/

def SpTab (w:World):Prop:=Lib.TabIs Tryz.prog w "strings.asciiSpace" .u8 Lib.asciiSpaceTab
theorem SpTab.keep {w w':World} (h:SpTab w) (hf:Fr w w'):SpTab w':=by
 have hg:Tryz.prog.globalNamed "strings.asciiSpace" = some 0:=by kernel_rfl
 unfold SpTab Lib.TabIs World.var? at h ⊢
 rw [hg] at h ⊢
 simp only [Option.bind_some] at h ⊢
 have hlt:(0:Nat)<w.heap.size:=by
  rcases Nat.lt_or_ge (0:Nat) w.heap.size with h' | h'
  ·exact h'
  ·rw [Array.getElem?_eq_none h'] at h;cases h
 have hb:Below w.heap.size w w':=hf
 rw [hb.block _ hlt]
 exact h
def Rf.wordOf (k:Rf.Kind):List UInt8:=k.1++[58,k.2]
structure KsOk (s:List UInt8) (ks:List Rf.Kind):Prop where
 fields:Lib.fields s=ks.map Rf.wordOf
 cut:∀ k∈ks,Lib.cut (Rf.wordOf k) [58]=(k.1,[k.2],true)
 letters:∀ k∈ks,k.2∈Rf.letters
 ascii:∀ b∈s,b.toNat<128
 len:s.length≤200
 short:∀ k∈ks,k.1.length≤200
 few:ks.length≤100
theorem fields_is (s:List UInt8) (ks:List Rf.Kind) (hk:KsOk s ks) (w:World) (hT:SpTab w):
  Calls Tryz.prog 28 #[.string ⟨s.toArray⟩] w fun e w'=>∃ X,e=.returned (.slice (some ⟨X,0,none⟩) ks.length ks.length)∧(∀ i (h:i<ks.length),w'.cell? ⟨X,i,none⟩=some (.string ⟨(Rf.wordOf ks[i]).toArray⟩))∧X<w'.heap.size∧Fr w w':=by
 have hs:(⟨s.toArray⟩:ByteArray).data.toList=s:=by simp
 refine (Tryz.strings_Fields_laid ⟨s.toArray⟩ w ?_ ?_ hT).mono ?_
 ·show s.toArray.size<_;rw [List.size_toArray];have:=hk.len;omega
 ·intro j b hb;rw [hs] at hb;exact hk.ascii b (List.mem_of_getElem? hb)
 ·rw [hs,hk.fields]
  rintro e w' ⟨rfl,rfl⟩
  refine ⟨w.heap.size,by rw [List.length_map],fun i h=>?_,by simp,(Fr.refl w).alloc _⟩
  rw [World.cell?_alloc_at _ _ _ _ rfl,List.getElem?_toArray,List.getElem?_map,List.getElem?_map,List.getElem?_eq_getElem h]
  rfl
theorem cut_is (k:Rf.Kind) (hc:Lib.cut (Rf.wordOf k) [58]=(k.1,[k.2],true)) (hl:k.1.length≤200) (w:World) (hM:MxL w):
  Calls Tryz.prog 29 #[.string ⟨(Rf.wordOf k).toArray⟩,.string ⟨#[58]⟩] w fun e w'=>e=.returned (.tuple #[.string ⟨k.1.toArray⟩,.string ⟨#[k.2]⟩,.bool true])∧Fr w w':=by
 obtain ⟨m,hm⟩:=hM
 have hs:(⟨(Rf.wordOf k).toArray⟩:ByteArray).data.toList=Rf.wordOf k:=by simp
 have h2:(⟨#[58]⟩:ByteArray).data.toList=[58]:=rfl
 refine (Tryz.strings_Cut ⟨(Rf.wordOf k).toArray⟩ ⟨#[58]⟩ m w ?_ hm).mono ?_
 ·show (Rf.wordOf k).toArray.size<_;rw [List.size_toArray];unfold Rf.wordOf;simp;omega
 ·rw [hs,h2,hc]
  rintro e w' ⟨rfl,n,rfl⟩
  exact ⟨rfl,(Fr.refl w).drewN n⟩
theorem nullV_in (w:World) (S:Nat→Prop):InV w S Rf.nullV (.agg #[.int .i64 1,.int .i64 0,.string ⟨#[]⟩,.slice none 0 0,.slice none 0 0]):=
 InV.both (A:=none) (c:=0) (A':=none) (c':=0) (fun i h=>absurd h (by simp)) (fun i h=>absurd h (by simp)) (by simp) (by simp) 1 0 [] (by decide) (by decide) (by decide) (by decide) (by simp)
def ArP:Option (List JV)→Ending→World→Prop
 | none,e,_=>e=.returned (.tuple #[.slice none 0 0,.int .i64 1])
 | some l,e,w'=>∃ A c,e=.returned (.tuple #[.slice A l.length c,.int .i64 0])∧LsC w' (Lo w'.heap.size) A l
theorem Rf.argv_big {v:JV} {s:List UInt8} {n:Nat} (hb:JV.bulk v≤n) (h3:3≤n):JV.bulk (Rf.argv v s)≤n:=by
 unfold Rf.argv
 cases h:Pt.get v s with
 | none=>exact h3
 | some x=>
  show JV.bulk x≤_
  unfold Pt.get at h
  split at h
  ·have h1:=Rf.getM_big h
   have h2:=Rf.bulk_eq v
   omega
  ·cases h
theorem rargs_is (s:List UInt8) (ks:List Rf.Kind) (hk:KsOk s ks) (v:JV) (B:Option Addr) (d:Nat) (B':Option Addr) (d':Nat) (w:World) (Z:Nat) (hZ:Z≤w.heap.size) (h:InV w (Lo Z) v (vA v B d B' d')) (hbv:JV.bulk v≤1048576) (hM:MxL w) (hT:SpTab w):
  Calls Tryz.prog 9 #[.agg #[.int .i64 v.kd,.int .i64 v.nm,.string ⟨v.tx.toArray⟩,.slice B v.ls.length d,.slice B' v.ms.length d'],.string ⟨s.toArray⟩] w fun e w'=>ArP (Rf.args v ks) e w'∧Fr w w':=by
 have hf0:Fr w (w.alloc (.cells #[.int .i64 v.kd,.int .i64 v.nm,.string ⟨v.tx.toArray⟩,.slice B v.ls.length d,.slice B' v.ms.length d'] 25)):=(Fr.refl w).alloc _
 have hx0:Blk (w.alloc (.cells #[.int .i64 v.kd,.int .i64 v.nm,.string ⟨v.tx.toArray⟩,.slice B v.ls.length d,.slice B' v.ms.length d'] 25)) w.heap.size #[.int .i64 v.kd,.int .i64 v.nm,.string ⟨v.tx.toArray⟩,.slice B v.ls.length d,.slice B' v.ms.length d'] 25:=Blk.made w _ _
 have hbe:=Rf.bulk_eq v
 have hml:=Rf.bigM_len v.ms
 by_cases h6:v.kd=6
 ·have q6:(v.kd != 6)=false:=by rw [h6];rfl
  have HFI:Hid (∀ W,Fr w W→Calls Tryz.prog 28 #[.string ⟨s.toArray⟩] W fun e w'=>∃ X,e=.returned (.slice (some ⟨X,0,none⟩) ks.length ks.length)∧(∀ i (h:i<ks.length),w'.cell? ⟨X,i,none⟩=some (.string ⟨(Rf.wordOf ks[i]).toArray⟩))∧X<w'.heap.size∧Fr W w'):=Lib.hid (fun W hW=>fields_is s ks hk W (hT.keep hW))
  have HCU:Hid (∀ k∈ks,∀ W,Fr w W→Calls Tryz.prog 29 #[.string ⟨(Rf.wordOf k).toArray⟩,.string ⟨#[58]⟩] W fun e w'=>e=.returned (.tuple #[.string ⟨k.1.toArray⟩,.string ⟨#[k.2]⟩,.bool true])∧Fr W w'):=Lib.hid (fun k hkk W hW=>cut_is k (hk.cut k hkk) (hk.short k hkk) W (hM.keep hW))
  have HGE:Hid (∀ (nm:List UInt8) W,Fr w W→Calls Tryz.prog 30 #[.agg #[.int .i64 v.kd,.int .i64 v.nm,.string ⟨v.tx.toArray⟩,.slice B v.ls.length d,.slice B' v.ms.length d'],.string ⟨nm.toArray⟩] W (OpP Z W (Pt.get v nm))):=Lib.hid (fun nm W hW=>get_is v B d B' d' nm W Z (Nat.le_trans hZ hW.size) (h.keep hZ hW))
  have HLE:Hid (∀ k∈ks,k.2∈Rf.letters):=Lib.hid hk.letters
  have hkf:=hk.few
  have hkf':(ks.length:Int)≤100:=by omega
  have hml':(v.ms.length:Int)≤1048576:=by omega
  have HZ:=Lib.hid hZ
  have HBV:=Lib.hid hbv
  have HK6:=Lib.hid h6
  have HHL:=Lib.hid (Rf.hits_le v)
  clear h hM hT hk hZ hbv hbe h6
  go_enter Tryz.func9,Tryz.ntmps9
  go_upto_region 1 with fail
  generalize (w.alloc (.cells #[.int .i64 v.kd,.int .i64 v.nm,.string ⟨v.tx.toArray⟩,.slice B v.ls.length d,.slice B' v.ms.length d'] 25))=W1 at hf0 hx0 ⊢
  generalize w.heap.size=X2 at hx0 ⊢
  have HF0:=Lib.hid hf0
  have HX0:=Lib.hid hx0
  obtain ⟨⟨x0,x1,x2,x3,x4⟩,_⟩:=box5 hx0
  clear hf0 hx0
  go_upto_region 6 with (go_at_call 28;refine (HFI.out _ HF0.out).mono ?_;rintro e w5 ⟨X19,rfl,hwd,hxl,hf⟩;have HWD:=Lib.hid hwd;have HXL:=Lib.hid hxl;have HF5:=Lib.hid hf;clear hwd hxl hf)
  clear x0 x1 x2 x3 x4
  obtain ⟨W4,hW4⟩:∃ W,W=w5:=⟨_,rfl⟩
  subst hW4
  have HX4:=Lib.hid (HX0.out.keep HF5.out)
  have HF4:Hid (Fr w W4):=Lib.hid (HF0.out.trans HF5.out)
  obtain ⟨K,hKe⟩:∃ K,W4.heap.size=K:=⟨_,rfl⟩
  have HKK:Hid (W4.heap.size≤K):=Lib.hid (Nat.le_of_eq hKe)
  have HVN:Hid (VsB W4 Z K (.slice none 0 0) []):=Lib.hid (VsB.none_ W4 (by rw [← hKe];exact ⟨Nat.le_trans HZ.out HF4.out.size,Nat.le_refl _⟩))
  clear hKe
  go_loopw [6,7,9,10,11,12,14,21] (fun a6 a7 a9 a10 a11 a12 a14 j wr=>∃ (i n:Nat) (acc:List JV) (vs:Value),i≤ks.length∧n≤i∧a6=vs∧a7=.int .i64 n∧j=.int .i64 i∧acc.length=i∧Hid (VsB wr Z K vs acc)∧Hid (Rf.hits v (ks.take i)=n)∧Hid (Rf.mays v (ks.take i)=true)∧Hid (acc=(ks.take i).map fun k=>Rf.argv v k.1)∧Hid (Fr W4 wr)) (fun _ _ _ _ _ _ _ j _=>ks.length - (intOf j).toNat)
  case atStart=>exact ⟨0,0,[],_,by omega,by omega,rfl,rfl,rfl,rfl,HVN,Lib.hid rfl,Lib.hid rfl,Lib.hid rfl,Lib.hid (Fr.refl W4)⟩
  case round=>
   obtain ⟨i,n,acc,vs,hi,hni,rfl,rfl,rfl,hal,hV,hN,hM,hA,hF⟩:=hrel
   obtain ⟨sa,sc,hvs⟩:=hV.out.is_slice
   subst hvs
   have HFW:Hid (Fr w wr):=Lib.hid (HF4.out.trans hF.out)
   by_cases hlt:i<ks.length
   ·have hlt':(i:Int)<(ks.length:Int):=by omega
    have hwd:=(hF.out.cell HXL.out).trans (HWD.out i hlt)
    have hmem:=List.getElem_mem hlt
    have hcu:=HCU.out _ hmem
    have hle:=HLE.out _ hmem
    obtain ⟨nm,c,hki⟩:∃ nm c,ks[i]=(nm,c):=⟨_,_,rfl⟩
    rw [hki] at hwd hcu hle
    obtain ⟨wd,hwde⟩:∃ x,Rf.wordOf (nm,c)=x:=⟨_,rfl⟩
    rw [hwde] at hwd hcu
    obtain ⟨ls,hls⟩:∃ x:ByteArray,(⟨#[c]⟩:ByteArray)=x:=⟨_,rfl⟩
    have hl1:ls[0]? = some c:=by rw [← hls];rfl
    have hl2:ls.size=1:=by rw [← hls];rfl
    have hl3:(0:Int)<(ls.size:Int):=by omega
    have hl0:0<ls.size:=by omega
    have hl7:ls[0]=c:=by have h:=getElem?_pos ls 0 hl0;rw [hl1] at h;exact (Option.some.inj h).symm
    have hl4:(ls.toList == (⟨#[]⟩:ByteArray).toList)=false:=by rw [← hls,bl_beq'];rfl
    have hl6:ls.toList.isEmpty=false:=by rw [← hls,ByteArray.toList_eq];rfl
    have hl5:(ls == ⟨#[]⟩)=false:=by rw [← hls];rfl
    have hcu2:∀ W,Fr w W→Calls Tryz.prog 29 #[.string ⟨wd.toArray⟩,.string ⟨#[58]⟩] W fun e w'=>e=.returned (.tuple #[.string ⟨nm.toArray⟩,.string ls,.bool true])∧Fr W w':=fun W hW=>by rw [← hls];exact hcu W hW
    have HC2:=Lib.hid hcu2
    have HKI:=Lib.hid hki
    have HCL:=Lib.hid hle
    have hxr:=HX4.out.keep hF.out
    have HXR:=Lib.hid hxr
    obtain ⟨⟨x0,x1,x2,x3,x4⟩,_⟩:=box5 hxr
    clear hcu hcu2 hki hle hmem hwde hls hxr
    go_upto_region 8 with fail
    go_upto_region 9 with (go_at_call 29;refine (HC2.out _ HFW.out).mono ?_;rintro e w8 ⟨rfl,hf⟩;have HF8:=Lib.hid hf;clear hf)
    clear hwd x0 x1 x2 x3 x4
    obtain ⟨⟨x0,x1,x2,x3,x4⟩,_⟩:=box5 (HXR.out.keep HF8.out)
    have hge:=HGE.out nm _ (HFW.out.trans HF8.out)
    cases hg:Pt.get v nm with
    | none=>
     rw [hg] at hge
     have HGG:=Lib.hid hge
     have HN2:Hid (Rf.hits v (ks.take i)+(if (Pt.get v nm).isSome then 1 else 0)=n):=Lib.hid (by rw [hg,hN.out];rfl)
     obtain ⟨a,ha⟩:∃ a,Rf.nullV=a:=⟨_,rfl⟩
     have HAV:Hid (Rf.argv v nm=a):=Lib.hid (by unfold Rf.argv;rw [hg,← ha];rfl)
     have HAB:Hid (JV.bulk a≤1048576):=Lib.hid (by rw [← ha];decide)
     have HAE:=Lib.hid ha
     clear hge hg
     go_upto_region 11 with (go_at_call 30;refine HGG.out.mono ?_;rintro e w9 ⟨rfl,hf⟩;have HF9:=Lib.hid hf;clear hf)
     clear x0 x1 x2 x3 x4
     have hb9:Blk (w9.alloc (.cells #[.int .i64 0,.int .i64 0,.string ⟨#[]⟩,.slice none 0 0,.slice none 0 0] 25)) w9.heap.size #[.int .i64 0,.int .i64 0,.string ⟨#[]⟩,.slice none 0 0,.slice none 0 0] 25:=Blk.made w9 _ _
     have hf9:Fr wr (w9.alloc (.cells #[.int .i64 0,.int .i64 0,.string ⟨#[]⟩,.slice none 0 0,.slice none 0 0] 25)):=(HF8.out.trans HF9.out).alloc _
     have hx9:wr.heap.size≤w9.heap.size:=(HF8.out.trans HF9.out).size
     generalize (w9.alloc (.cells #[.int .i64 0,.int .i64 0,.string ⟨#[]⟩,.slice none 0 0,.slice none 0 0] 25))=W9 at hb9 hf9 ⊢
     generalize w9.heap.size=X13 at hb9 hx9 ⊢
     obtain ⟨⟨x0,x1,x2,x3,x4⟩,xf0,xf1,xf2,xf3,xf4⟩:=box5 hb9
     have HB9:=Lib.hid hb9
     have HF9':=Lib.hid hf9
     have HX9:=Lib.hid hx9
     clear hb9 hf9 hx9
     go_upto_region 13 with fail
     have hb13:Blk (st5 W9 X13 (.int .i64 1) (.int .i64 0) (.string ⟨#[]⟩) (.slice none 0 0) (.slice none 0 0)) X13 #[.int .i64 1,.int .i64 0,.string ⟨#[]⟩,.slice none 0 0,.slice none 0 0] 25:=set5 HB9.out
     have hf13:Fr wr (st5 W9 X13 (.int .i64 1) (.int .i64 0) (.string ⟨#[]⟩) (.slice none 0 0) (.slice none 0 0)):=st5_fr HF9'.out HX9.out _ _ _ _ _
     unfold st5 at hb13 hf13
     clear x0 x1 x2 x3 x4 xf0 xf1 xf2 xf3 xf4
     generalize (((((W9.setCell ⟨X13,0,none⟩ (.int .i64 1)).setCell ⟨X13,1,none⟩ (.int .i64 0)).setCell ⟨X13,2,none⟩ (.string ⟨#[]⟩)).setCell ⟨X13,3,none⟩ (.slice none 0 0)).setCell ⟨X13,4,none⟩ (.slice none 0 0))=W13 at hb13 hf13 ⊢
     have HF13:=Lib.hid hf13
     have HZ13:Hid (Z≤W13.heap.size):=Lib.hid (Nat.le_trans HZ.out (HFW.out.trans hf13).size)
     obtain ⟨C,f,C',f',hb13'⟩:∃ (C:Option Addr) (f:Nat) (C':Option Addr) (f':Nat),Hid (C=none∧f=0∧C'=none∧f'=0):=⟨none,0,none,0,Lib.hid ⟨rfl,rfl,rfl,rfl⟩⟩
     have HB13:Hid (Blk W13 X13 #[.int .i64 a.kd,.int .i64 a.nm,.string ⟨a.tx.toArray⟩,.slice C a.ls.length f,.slice C' a.ms.length f'] 25):=Lib.hid (by obtain ⟨rfl,rfl,rfl,rfl⟩:=hb13'.out;rw [← HAE.out];exact hb13)
     have HIA:Hid (InV W13 (Lo Z) a (vA a C f C' f')):=Lib.hid (by obtain ⟨rfl,rfl,rfl,rfl⟩:=hb13'.out;rw [← HAE.out];exact nullV_in _ _)
     obtain ⟨n2,hn2⟩:∃ m,n=m:=⟨_,rfl⟩
     have HN2:Hid (Rf.hits v (ks.take i)+(if (Pt.get v nm).isSome then 1 else 0)=n2):=Lib.hid (by rw [← hn2];exact HN2.out)
     subst hn2
     clear hb13 hf13 HB9 HF9' HAE ha
     have HSW:Hid (∀ W,Fr W13 W→W.cell? ⟨X13,0,none⟩=some (.int .i64 a.kd)∧W.cell? ⟨X13,1,none⟩=some (.int .i64 a.nm)∧W.cell? ⟨X13,2,none⟩=some (.string ⟨a.tx.toArray⟩)∧W.cell? ⟨X13,3,none⟩=some (.slice C a.ls.length f)∧W.cell? ⟨X13,4,none⟩=some (.slice C' a.ms.length f')):=Lib.hid (fun W hW=>by
      have b:=HB13.out.keep hW
      exact ⟨b.cell 0,b.cell 1,b.cell 2,b.cell 3,b.cell 4⟩)
     obtain ⟨mb,hmb⟩:∃ b,Rf.may c a=b:=⟨_,rfl⟩
     have HMY:Hid (∀ W,Fr W13 W→Calls Tryz.prog 31 #[.int .u8 (c.toNat:Nat),.agg #[.int .i64 a.kd,.int .i64 a.nm,.string ⟨a.tx.toArray⟩,.slice C a.ls.length f,.slice C' a.ms.length f']] W fun e w'=>e=.returned (.bool mb)∧Fr W w'):=Lib.hid (fun W hW=>by
      rw [← hmb]
      exact rfmay_is c HCL.out a C f C' f' W ((HIA.out.keep HZ13.out hW).more (fun b hb=>Nat.lt_of_lt_of_le hb (Nat.le_trans HZ13.out hW.size))) HAB.out)
     have HMB:=Lib.hid hmb
     clear hmb
     cases mb
     ·have HR:Hid (Rf.args v ks=none):=Lib.hid (Rf.args_may (Rf.mays_no v ks i hlt (by rw [HKI.out,HAV.out];exact HMB.out)))
      refine wp_region_held_drew (S:=(fun W=>W.cell? ⟨X13,0,none⟩=some (.int .i64 a.kd)∧W.cell? ⟨X13,1,none⟩=some (.int .i64 a.nm)∧W.cell? ⟨X13,2,none⟩=some (.string ⟨a.tx.toArray⟩)∧W.cell? ⟨X13,3,none⟩=some (.slice C a.ls.length f)∧W.cell? ⟨X13,4,none⟩=some (.slice C' a.ms.length f'))) (by kernel_rfl) ?_ (fun hHeld=>?_)
      ·exact HSW.out _ (Fr.refl _).drew
      refine tk (i:=0) (v:=?_) rfl ⟨by rfl,?_⟩ hHeld ?_
      rotate_left
      ·(intro w' hSw;(try dsimp only at hSw);go_simp;try with_reducible rfl)
      try simp only [Act.put,fl]
      refine tk (i:=1) (v:=?_) rfl ⟨by rfl,?_⟩ hHeld ?_
      rotate_left
      ·(intro w' hSw;(try dsimp only at hSw);go_simp;try with_reducible rfl)
      try simp only [Act.put,fl]
      refine tk (i:=2) (v:=?_) rfl ⟨by rfl,?_⟩ hHeld ?_
      rotate_left
      ·(intro w' hSw;(try dsimp only at hSw);go_simp;try with_reducible rfl)
      try simp only [Act.put,fl]
      refine tk (i:=3) (v:=?_) rfl ⟨by rfl,?_⟩ hHeld ?_
      rotate_left
      ·(intro w' hSw;(try dsimp only at hSw);go_simp;try with_reducible rfl)
      try simp only [Act.put,fl]
      refine tk (i:=4) (v:=?_) rfl ⟨by rfl,?_⟩ hHeld ?_
      rotate_left
      ·(intro w' hSw;(try dsimp only at hSw);go_simp;try with_reducible rfl)
      try simp only [Act.put,fl]
      refine tk (i:=5) (v:=?_) rfl ⟨by rfl,?_⟩ hHeld ?_
      rotate_left
      ·(intro w' hSw;(try dsimp only at hSw);go_simp;try with_reducible rfl)
      try simp only [Act.put,fl]
      refine wpAnyH_ready (rs:=[6]) (by kernel_rfl) (by simp) ?_
      refine AllReadyH.cons rfl (fun K hK=>?_) AllReadyH.nil
      go_simp
      (go_at_call 31;refine (HMY.out _ (Fr.refl W13).drew).mono ?_;rintro e w14 ⟨rfl,hf⟩;have HG14:Hid (Fr W13 w14):=Lib.hid ((Fr.refl W13).drew.trans hf);clear hf)
      try (refine hK.out _ _ ?_ (fun hHeld2=>?_))
      ·exact HSW.out _ HG14.out
      clear hK K
      try simp only [Act.put,fl]
      refine tk (i:=7) (v:=?_) rfl ⟨by rfl,?_⟩ hHeld2 ?_
      rotate_left
      ·(intro w' hSw;(try dsimp only at hSw);go_simp;try with_reducible rfl)
      try simp only [Act.put,fl]
      refine tk (i:=8) (v:=?_) rfl ⟨by rfl,?_⟩ hHeld2 ?_
      rotate_left
      ·(intro w' hSw;(try dsimp only at hSw);go_simp;try with_reducible rfl)
      try simp only [Act.put,fl]
      refine wpAnyH_done (by kernel_rfl) ?_ _
      clear hHeld hHeld2
      skip
      repeat (first | go_skip | go_step)
      go_ret2
      rw [HR.out]
      exact ⟨rfl,(HFW.out.trans HF13.out).trans HG14.out⟩
     ·skip
      refine wp_region_held_drew (S:=(fun W=>W.cell? ⟨X13,0,none⟩=some (.int .i64 a.kd)∧W.cell? ⟨X13,1,none⟩=some (.int .i64 a.nm)∧W.cell? ⟨X13,2,none⟩=some (.string ⟨a.tx.toArray⟩)∧W.cell? ⟨X13,3,none⟩=some (.slice C a.ls.length f)∧W.cell? ⟨X13,4,none⟩=some (.slice C' a.ms.length f'))) (by kernel_rfl) ?_ (fun hHeld=>?_)
      ·exact HSW.out _ (Fr.refl _).drew
      refine tk (i:=0) (v:=?_) rfl ⟨by rfl,?_⟩ hHeld ?_
      rotate_left
      ·(intro w' hSw;(try dsimp only at hSw);go_simp;try with_reducible rfl)
      try simp only [Act.put,fl]
      refine tk (i:=1) (v:=?_) rfl ⟨by rfl,?_⟩ hHeld ?_
      rotate_left
      ·(intro w' hSw;(try dsimp only at hSw);go_simp;try with_reducible rfl)
      try simp only [Act.put,fl]
      refine tk (i:=2) (v:=?_) rfl ⟨by rfl,?_⟩ hHeld ?_
      rotate_left
      ·(intro w' hSw;(try dsimp only at hSw);go_simp;try with_reducible rfl)
      try simp only [Act.put,fl]
      refine tk (i:=3) (v:=?_) rfl ⟨by rfl,?_⟩ hHeld ?_
      rotate_left
      ·(intro w' hSw;(try dsimp only at hSw);go_simp;try with_reducible rfl)
      try simp only [Act.put,fl]
      refine tk (i:=4) (v:=?_) rfl ⟨by rfl,?_⟩ hHeld ?_
      rotate_left
      ·(intro w' hSw;(try dsimp only at hSw);go_simp;try with_reducible rfl)
      try simp only [Act.put,fl]
      refine tk (i:=5) (v:=?_) rfl ⟨by rfl,?_⟩ hHeld ?_
      rotate_left
      ·(intro w' hSw;(try dsimp only at hSw);go_simp;try with_reducible rfl)
      try simp only [Act.put,fl]
      refine wpAnyH_ready (rs:=[6]) (by kernel_rfl) (by simp) ?_
      refine AllReadyH.cons rfl (fun K hK=>?_) AllReadyH.nil
      go_simp
      (go_at_call 31;refine (HMY.out _ (Fr.refl W13).drew).mono ?_;rintro e w14 ⟨rfl,hf⟩;have HG14:Hid (Fr W13 w14):=Lib.hid ((Fr.refl W13).drew.trans hf);clear hf)
      try (refine hK.out _ _ ?_ (fun hHeld2=>?_))
      ·exact HSW.out _ HG14.out
      clear hK K
      try simp only [Act.put,fl]
      refine tk (i:=7) (v:=?_) rfl ⟨by rfl,?_⟩ hHeld2 ?_
      rotate_left
      ·(intro w' hSw;(try dsimp only at hSw);go_simp;try with_reducible rfl)
      try simp only [Act.put,fl]
      refine tk (i:=8) (v:=?_) rfl ⟨by rfl,?_⟩ hHeld2 ?_
      rotate_left
      ·(intro w' hSw;(try dsimp only at hSw);go_simp;try with_reducible rfl)
      try simp only [Act.put,fl]
      refine wpAnyH_done (by kernel_rfl) ?_ _
      obtain ⟨W15,hW15⟩:∃ W,W=w14:=⟨_,rfl⟩
      subst hW15
      obtain ⟨⟨x0,x1,x2,x3,x4⟩,_⟩:=box5 (HB13.out.keep HG14.out)
      have HVS:Hid (VsB W15 Z K (.slice sa i sc) acc):=Lib.hid (by rw [← hal];exact hV.out.keep (HF13.out.trans HG14.out))
      have HIA2:Hid (InV W15 (InB Z K W15 (.slice sa i sc)) a (vA a C f C' f')):=Lib.hid ((HIA.out.keep HZ13.out HG14.out).more (fun b hb=>.inl hb))
      have hk63:(acc.length+1)*80≤140737488355328:=by omega
      clear hHeld hHeld2
      skip
      go_wp2_with (at_builtin;refine wpl_vB_lit rfl (.tmp 51) (.tmp 53) rfl Z K _ acc rfl HVS.out a C f C' f' rfl HIA2.out rfl (by simp) hk63 ?_;intro v4 w4 hv4 hg4;obtain ⟨a4,c4,rfl⟩:=hv4.is_slice2 (n:=1) rfl;have HV4:=Lib.hid hv4;have HF4:Hid (Fr W4 w4):=Lib.hid (vsb_frC (((hF.out.trans HF13.out).trans HG14.out).alloc _) (HVS.out.keep ((Fr.refl _).alloc _)) HKK.out hg4);clear hv4 hg4)
      exact ⟨⟨i+1,n,acc++[a],_,by omega,by omega,rfl,rfl,by go_num,by simp;omega,Lib.hid (by rw [← hal];exact HV4.out),Lib.hid (by rw [Rf.hits_take v ks i hlt,HKI.out,HN2.out]),Lib.hid (by rw [Rf.mays_take v ks i hlt,hM.out,HKI.out,HAV.out];exact HMB.out),Lib.hid (by rw [Rf.take_one ks i hlt,List.map_append,hA.out,HKI.out];show _=_++[Rf.argv v nm];rw [HAV.out]),HF4⟩,by simp [intOf];omega⟩
    | some y=>
     rw [hg] at hge
     have HGG:=Lib.hid hge
     have HN2:Hid (Rf.hits v (ks.take i)+(if (Pt.get v nm).isSome then 1 else 0)=n+1):=Lib.hid (by rw [hg,hN.out];rfl)
     have HAV:Hid (Rf.argv v nm=y):=Lib.hid (by unfold Rf.argv;rw [hg];rfl)
     have HAB:Hid (JV.bulk y≤1048576):=Lib.hid (by rw [← HAV.out];exact Rf.argv_big HBV.out (by decide))
     clear hge hg
     go_upto_region 11 with (go_at_call 30;refine HGG.out.mono ?_;rintro e w9 ⟨C,f,C',f',rfl,hi9,hf⟩;have HF9:=Lib.hid hf;have HI9:=Lib.hid hi9;clear hf hi9)
     clear x0 x1 x2 x3 x4
     have hb13:Blk (w9.alloc (.cells #[.int .i64 y.kd,.int .i64 y.nm,.string ⟨y.tx.toArray⟩,.slice C y.ls.length f,.slice C' y.ms.length f'] 25)) w9.heap.size #[.int .i64 y.kd,.int .i64 y.nm,.string ⟨y.tx.toArray⟩,.slice C y.ls.length f,.slice C' y.ms.length f'] 25:=Blk.made w9 _ _
     have hf13:Fr wr (w9.alloc (.cells #[.int .i64 y.kd,.int .i64 y.nm,.string ⟨y.tx.toArray⟩,.slice C y.ls.length f,.slice C' y.ms.length f'] 25)):=(HF8.out.trans HF9.out).alloc _
     have hi13:InV (w9.alloc (.cells #[.int .i64 y.kd,.int .i64 y.nm,.string ⟨y.tx.toArray⟩,.slice C y.ls.length f,.slice C' y.ms.length f'] 25)) (Lo Z) y (vA y C f C' f'):=HI9.out.keep (Nat.le_trans HZ.out ((HFW.out.trans HF8.out).trans HF9.out).size) ((Fr.refl w9).alloc _)
     generalize (w9.alloc (.cells #[.int .i64 y.kd,.int .i64 y.nm,.string ⟨y.tx.toArray⟩,.slice C y.ls.length f,.slice C' y.ms.length f'] 25))=W13 at hb13 hf13 hi13 ⊢
     generalize w9.heap.size=X13 at hb13 ⊢
     have HF13:=Lib.hid hf13
     have HB13:=Lib.hid hb13
     have HIA:=Lib.hid hi13
     have HZ13:Hid (Z≤W13.heap.size):=Lib.hid (Nat.le_trans HZ.out (HFW.out.trans hf13).size)
     clear hb13 hf13 hi13
     go_upto_region 13 with fail
     obtain ⟨n2,hn2⟩:∃ m,n+1=m:=⟨_,rfl⟩
     have HN2:Hid (Rf.hits v (ks.take i)+(if (Pt.get v nm).isSome then 1 else 0)=n2):=Lib.hid (by rw [← hn2];exact HN2.out)
     subst hn2
     have HSW:Hid (∀ W,Fr W13 W→W.cell? ⟨X13,0,none⟩=some (.int .i64 y.kd)∧W.cell? ⟨X13,1,none⟩=some (.int .i64 y.nm)∧W.cell? ⟨X13,2,none⟩=some (.string ⟨y.tx.toArray⟩)∧W.cell? ⟨X13,3,none⟩=some (.slice C y.ls.length f)∧W.cell? ⟨X13,4,none⟩=some (.slice C' y.ms.length f')):=Lib.hid (fun W hW=>by
      have b:=HB13.out.keep hW
      exact ⟨b.cell 0,b.cell 1,b.cell 2,b.cell 3,b.cell 4⟩)
     obtain ⟨mb,hmb⟩:∃ b,Rf.may c y=b:=⟨_,rfl⟩
     have HMY:Hid (∀ W,Fr W13 W→Calls Tryz.prog 31 #[.int .u8 (c.toNat:Nat),.agg #[.int .i64 y.kd,.int .i64 y.nm,.string ⟨y.tx.toArray⟩,.slice C y.ls.length f,.slice C' y.ms.length f']] W fun e w'=>e=.returned (.bool mb)∧Fr W w'):=Lib.hid (fun W hW=>by
      rw [← hmb]
      exact rfmay_is c HCL.out y C f C' f' W ((HIA.out.keep HZ13.out hW).more (fun b hb=>Nat.lt_of_lt_of_le hb (Nat.le_trans HZ13.out hW.size))) HAB.out)
     have HMB:=Lib.hid hmb
     clear hmb
     cases mb
     ·have HR:Hid (Rf.args v ks=none):=Lib.hid (Rf.args_may (Rf.mays_no v ks i hlt (by rw [HKI.out,HAV.out];exact HMB.out)))
      refine wp_region_held_drew (S:=(fun W=>W.cell? ⟨X13,0,none⟩=some (.int .i64 y.kd)∧W.cell? ⟨X13,1,none⟩=some (.int .i64 y.nm)∧W.cell? ⟨X13,2,none⟩=some (.string ⟨y.tx.toArray⟩)∧W.cell? ⟨X13,3,none⟩=some (.slice C y.ls.length f)∧W.cell? ⟨X13,4,none⟩=some (.slice C' y.ms.length f'))) (by kernel_rfl) ?_ (fun hHeld=>?_)
      ·exact HSW.out _ (Fr.refl _).drew
      refine tk (i:=0) (v:=?_) rfl ⟨by rfl,?_⟩ hHeld ?_
      rotate_left
      ·(intro w' hSw;(try dsimp only at hSw);go_simp;try with_reducible rfl)
      try simp only [Act.put,fl]
      refine tk (i:=1) (v:=?_) rfl ⟨by rfl,?_⟩ hHeld ?_
      rotate_left
      ·(intro w' hSw;(try dsimp only at hSw);go_simp;try with_reducible rfl)
      try simp only [Act.put,fl]
      refine tk (i:=2) (v:=?_) rfl ⟨by rfl,?_⟩ hHeld ?_
      rotate_left
      ·(intro w' hSw;(try dsimp only at hSw);go_simp;try with_reducible rfl)
      try simp only [Act.put,fl]
      refine tk (i:=3) (v:=?_) rfl ⟨by rfl,?_⟩ hHeld ?_
      rotate_left
      ·(intro w' hSw;(try dsimp only at hSw);go_simp;try with_reducible rfl)
      try simp only [Act.put,fl]
      refine tk (i:=4) (v:=?_) rfl ⟨by rfl,?_⟩ hHeld ?_
      rotate_left
      ·(intro w' hSw;(try dsimp only at hSw);go_simp;try with_reducible rfl)
      try simp only [Act.put,fl]
      refine tk (i:=5) (v:=?_) rfl ⟨by rfl,?_⟩ hHeld ?_
      rotate_left
      ·(intro w' hSw;(try dsimp only at hSw);go_simp;try with_reducible rfl)
      try simp only [Act.put,fl]
      refine wpAnyH_ready (rs:=[6]) (by kernel_rfl) (by simp) ?_
      refine AllReadyH.cons rfl (fun K hK=>?_) AllReadyH.nil
      go_simp
      (go_at_call 31;refine (HMY.out _ (Fr.refl W13).drew).mono ?_;rintro e w14 ⟨rfl,hf⟩;have HG14:Hid (Fr W13 w14):=Lib.hid ((Fr.refl W13).drew.trans hf);clear hf)
      try (refine hK.out _ _ ?_ (fun hHeld2=>?_))
      ·exact HSW.out _ HG14.out
      clear hK K
      try simp only [Act.put,fl]
      refine tk (i:=7) (v:=?_) rfl ⟨by rfl,?_⟩ hHeld2 ?_
      rotate_left
      ·(intro w' hSw;(try dsimp only at hSw);go_simp;try with_reducible rfl)
      try simp only [Act.put,fl]
      refine tk (i:=8) (v:=?_) rfl ⟨by rfl,?_⟩ hHeld2 ?_
      rotate_left
      ·(intro w' hSw;(try dsimp only at hSw);go_simp;try with_reducible rfl)
      try simp only [Act.put,fl]
      refine wpAnyH_done (by kernel_rfl) ?_ _
      clear hHeld hHeld2
      skip
      repeat (first | go_skip | go_step)
      go_ret2
      rw [HR.out]
      exact ⟨rfl,(HFW.out.trans HF13.out).trans HG14.out⟩
     ·skip
      refine wp_region_held_drew (S:=(fun W=>W.cell? ⟨X13,0,none⟩=some (.int .i64 y.kd)∧W.cell? ⟨X13,1,none⟩=some (.int .i64 y.nm)∧W.cell? ⟨X13,2,none⟩=some (.string ⟨y.tx.toArray⟩)∧W.cell? ⟨X13,3,none⟩=some (.slice C y.ls.length f)∧W.cell? ⟨X13,4,none⟩=some (.slice C' y.ms.length f'))) (by kernel_rfl) ?_ (fun hHeld=>?_)
      ·exact HSW.out _ (Fr.refl _).drew
      refine tk (i:=0) (v:=?_) rfl ⟨by rfl,?_⟩ hHeld ?_
      rotate_left
      ·(intro w' hSw;(try dsimp only at hSw);go_simp;try with_reducible rfl)
      try simp only [Act.put,fl]
      refine tk (i:=1) (v:=?_) rfl ⟨by rfl,?_⟩ hHeld ?_
      rotate_left
      ·(intro w' hSw;(try dsimp only at hSw);go_simp;try with_reducible rfl)
      try simp only [Act.put,fl]
      refine tk (i:=2) (v:=?_) rfl ⟨by rfl,?_⟩ hHeld ?_
      rotate_left
      ·(intro w' hSw;(try dsimp only at hSw);go_simp;try with_reducible rfl)
      try simp only [Act.put,fl]
      refine tk (i:=3) (v:=?_) rfl ⟨by rfl,?_⟩ hHeld ?_
      rotate_left
      ·(intro w' hSw;(try dsimp only at hSw);go_simp;try with_reducible rfl)
      try simp only [Act.put,fl]
      refine tk (i:=4) (v:=?_) rfl ⟨by rfl,?_⟩ hHeld ?_
      rotate_left
      ·(intro w' hSw;(try dsimp only at hSw);go_simp;try with_reducible rfl)
      try simp only [Act.put,fl]
      refine tk (i:=5) (v:=?_) rfl ⟨by rfl,?_⟩ hHeld ?_
      rotate_left
      ·(intro w' hSw;(try dsimp only at hSw);go_simp;try with_reducible rfl)
      try simp only [Act.put,fl]
      refine wpAnyH_ready (rs:=[6]) (by kernel_rfl) (by simp) ?_
      refine AllReadyH.cons rfl (fun K hK=>?_) AllReadyH.nil
      go_simp
      (go_at_call 31;refine (HMY.out _ (Fr.refl W13).drew).mono ?_;rintro e w14 ⟨rfl,hf⟩;have HG14:Hid (Fr W13 w14):=Lib.hid ((Fr.refl W13).drew.trans hf);clear hf)
      try (refine hK.out _ _ ?_ (fun hHeld2=>?_))
      ·exact HSW.out _ HG14.out
      clear hK K
      try simp only [Act.put,fl]
      refine tk (i:=7) (v:=?_) rfl ⟨by rfl,?_⟩ hHeld2 ?_
      rotate_left
      ·(intro w' hSw;(try dsimp only at hSw);go_simp;try with_reducible rfl)
      try simp only [Act.put,fl]
      refine tk (i:=8) (v:=?_) rfl ⟨by rfl,?_⟩ hHeld2 ?_
      rotate_left
      ·(intro w' hSw;(try dsimp only at hSw);go_simp;try with_reducible rfl)
      try simp only [Act.put,fl]
      refine wpAnyH_done (by kernel_rfl) ?_ _
      obtain ⟨W15,hW15⟩:∃ W,W=w14:=⟨_,rfl⟩
      subst hW15
      obtain ⟨⟨x0,x1,x2,x3,x4⟩,_⟩:=box5 (HB13.out.keep HG14.out)
      have HVS:Hid (VsB W15 Z K (.slice sa i sc) acc):=Lib.hid (by rw [← hal];exact hV.out.keep (HF13.out.trans HG14.out))
      have HIA2:Hid (InV W15 (InB Z K W15 (.slice sa i sc)) y (vA y C f C' f')):=Lib.hid ((HIA.out.keep HZ13.out HG14.out).more (fun b hb=>.inl hb))
      have hk63:(acc.length+1)*80≤140737488355328:=by omega
      clear hHeld hHeld2
      skip
      go_wp2_with (at_builtin;refine wpl_vB_lit rfl (.tmp 51) (.tmp 53) rfl Z K _ acc rfl HVS.out y C f C' f' rfl HIA2.out rfl (by simp) hk63 ?_;intro v4 w4 hv4 hg4;obtain ⟨a4,c4,rfl⟩:=hv4.is_slice2 (n:=1) rfl;have HV4:=Lib.hid hv4;have HF4:Hid (Fr W4 w4):=Lib.hid (vsb_frC (((hF.out.trans HF13.out).trans HG14.out).alloc _) (HVS.out.keep ((Fr.refl _).alloc _)) HKK.out hg4);clear hv4 hg4)
      exact ⟨⟨i+1,n+1,acc++[y],_,by omega,by omega,rfl,rfl,by go_num,by simp;omega,Lib.hid (by rw [← hal];exact HV4.out),Lib.hid (by rw [Rf.hits_take v ks i hlt,HKI.out,HN2.out]),Lib.hid (by rw [Rf.mays_take v ks i hlt,hM.out,HKI.out,HAV.out];exact HMB.out),Lib.hid (by rw [Rf.take_one ks i hlt,List.map_append,hA.out,HKI.out];show _=_++[Rf.argv v nm];rw [HAV.out]),HF4⟩,by simp [intOf];omega⟩
   ·obtain rfl:i=ks.length:=by omega
    have HNH:=Lib.hid (show Rf.hits v ks=n by have:=hN.out;rwa [List.take_length] at this)
    have HMH:=Lib.hid (show Rf.mays v ks=true by have:=hM.out;rwa [List.take_length] at this)
    have HAH:=Lib.hid (show acc=ks.map (fun k=>Rf.argv v k.1) by have:=hA.out;rwa [List.take_length] at this)
    obtain ⟨⟨x0,x1,x2,x3,x4⟩,_⟩:=box5 (HX4.out.keep hF.out)
    by_cases hnm:n=v.ms.length
    ·have e1:((n:Int) != (v.ms.length:Int))=false:=by rw [hnm];simp
     have HR:Hid (Rf.args v ks=some acc):=Lib.hid (by rw [Rf.args_ok HK6.out HMH.out (HNH.out.trans hnm),HAH.out])
     have HVZ:=hV
     clear hnm
     go_wp2_with fail
     go_ret2
     rw [HR.out]
     exact ⟨⟨sa,sc,rfl,VsB.lsC (K:=K) HVZ.out (by omega)⟩,HFW.out⟩
    ·have e1:((n:Int) != (v.ms.length:Int))=true:=by rw [bne_iff_ne];omega
     have HR:Hid (Rf.args v ks=none):=Lib.hid (Rf.args_hits (by rw [HNH.out];exact hnm))
     clear hnm
     go_wp2_with fail
     go_ret2
     rw [HR.out]
     exact ⟨rfl,HFW.out⟩
 ·have q6:(v.kd != 6)=true:=by rw [bne_iff_ne];exact h6
  have HR:Hid (Rf.args v ks=none):=Lib.hid (Rf.args_kd h6)
  obtain ⟨⟨x0,x1,x2,x3,x4⟩,_⟩:=box5 hx0
  have HF0:=Lib.hid hf0
  clear hx0 hf0 h6 h hk
  go_enter Tryz.func9,Tryz.ntmps9
  go_wp2_with fail
  go_ret2
  rw [HR.out]
  exact ⟨rfl,HF0.out⟩
end Go.Proofs.YtdhakbghdcfncaaGreatDoor
