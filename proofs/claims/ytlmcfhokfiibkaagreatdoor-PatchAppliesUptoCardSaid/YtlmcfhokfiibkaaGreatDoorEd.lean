/- The walk of emit.quote. -/
import Derived.Test.YtlmcfhokfiibkaaGreatDoorUa
import Derived.Test.YtlmcfhokfiibkaaGreatDoorPa
import Derived.Test.YtlmcfhokfiibkaaGreatDoorKa
import Derived.Deep.RegionLaw
import Derived.Deep.RegionHeld3
namespace Go.Proofs.YtlmcfhokfiibkaaGreatDoor
set_option maxRecDepth 100000
set_option maxHeartbeats 2000000
set_option linter.unusedVariables false
set_option linter.unusedSimpArgs false
open Go.RowKit

theorem quote_any (s Q:List UInt8) (w:World) (hs:s.length≤140737488355328) (hq:Q.length≤140737488355328) (h:JV.q s=Q):
  Calls Tryz.prog 77 #[.string ⟨s.toArray⟩] w fun e w'=>∃ b,e=.returned (.tuple #[.string ⟨Q.toArray⟩,.bool b])∧Fr w w':=by
 subst h
 have hl:s.length=(⟨s.toArray⟩:ByteArray).size:=by show _=s.toArray.size;simp
 have hm:(⟨s.toArray⟩:ByteArray).size≤maxLen:=by rw [← hl];unfold maxLen;omega
 unfold JV.q Chr.quoteO at hq ⊢
 split at hq
 ·rename_i hb
  rw [if_pos hb]
  refine (quote_yes ⟨s.toArray⟩ w hm (by rw [← hl];simpa using hb) (by simpa using hq)).mono ?_
  rintro e w' ⟨rfl,hf⟩
  exact ⟨true,rfl,hf⟩
 ·rename_i hb
  rw [if_neg hb]
  refine (quote_no ⟨s.toArray⟩ w hm (by rw [← hl];simpa using hb)).mono ?_
  rintro e w' ⟨rfl,rfl⟩
  exact ⟨false,rfl,Fr.refl _⟩

theorem equote_is (w0:World) (s:List UInt8) (v:Value) (l:List UInt8) (w:World) (hfr:Fr w0 w) (hown:Bs w w0.heap.size v l) (hs:s.length≤140737488355328) (h63:l.length+(JV.q s).length≤140737488355328):
  Calls Tryz.prog 59 #[v,.string ⟨s.toArray⟩] w fun e w'=>∃ v',e=.returned v'∧Bs w' w0.heap.size v' (l++JV.q s)∧Fr w0 w'∧Kt w w'∧w.grownBy w' v.ownBlock:=by
 obtain ⟨Q,hQ⟩:∃ Q,JV.q s=Q:=⟨_,rfl⟩
 rw [hQ] at h63 ⊢
 have HQ:=Lib.hid hQ
 have HF:=Lib.hid hfr
 have HO:=Lib.hid hown
 clear hQ hfr hown
 go_enter Tryz.func59,Tryz.ntmps59
 go_wp2_with (first
  | (go_at_call 77;refine (quote_any s Q _ hs (by omega) HQ.out).mono ?_;rintro e w1 ⟨b,rfl,hw1⟩;have HF1:=Lib.hid (HF.out.trans hw1);have HO1:=Lib.hid (HO.out.keep hw1);have HK1:=Lib.hid (Kt.of hw1);have HG1:=Lib.hid (hw1.grows v.ownBlock);clear hw1)
  | (at_builtin;refine wpl_bt_k rfl (.tmp 12) (.tmp 13) (by rfl) w0 HF1.out v l (by rfl) HO1.out ⟨Q.toArray⟩ (by rfl) (by show _+Q.toArray.size≤_;simpa using h63) ?_;intro v' w3 hb3 hf3 hk3 hg3;have HG3:=Lib.hid (World.grownBy.trans HG1.out hg3);have HB3:=Lib.hid hb3;have HF3:=Lib.hid hf3;have HK3:=Lib.hid (HK1.out.trans hk3);clear hb3 hf3 hk3 hg3))
 go_ret
 exact ⟨_,rfl,by simpa using HB3.out,HF3.out,HK3.out,HG3.out⟩
/- The walk of emit.write. -/

def WrAt (v:JV) (x:Value):Prop:=∀ (w0 w:World) (o:Value) (l:List UInt8),Fr w0 w→Bs w w0.heap.size o l→InV w (Lo w0.heap.size) v x→l.length+(JV.wrt v).length≤140737488355328 →
 Calls Tryz.prog 36 #[o,x] w fun e w'=>∃ v',e=.returned v'∧Bs w' w0.heap.size v' (l++JV.wrt v)∧Fr w0 w'∧Kt w w'
theorem WrAt.call {v:JV} {x:Value} (h:WrAt v x) (w0:World) {w:World} {o x':Value} {l:List UInt8} (hx:x'=x) (hf:Fr w0 w) (hb:Bs w w0.heap.size o l) (hv:InV w (Lo w0.heap.size) v x) (h63:l.length+(JV.wrt v).length≤140737488355328):
  Calls Tryz.prog 36 #[o,x'] w fun e w'=>∃ v',e=.returned v'∧Bs w' w0.heap.size v' (l++JV.wrt v)∧Fr w0 w'∧Kt w w':=by
 subst hx;exact h w0 w o l hf hb hv h63

theorem write_leaf (k n:Int) (s:List UInt8) (A:Option Addr) (c0 L:Nat) (A':Option Addr) (c0' M:Nat) (T:List UInt8) (w0 w:World) (o:Value) (l:List UInt8) (hf:Fr w0 w) (hb:Bs w w0.heap.size o l)
  (hn1:-9223372036854775808≤n) (hn2:n≤9223372036854775807) (hs:s.length≤140737488355328) (hk:(k=1∧T=JV.tNull)∨(k=2∧n=1∧T=JV.tTrue)∨(k=2∧n≠1∧T=JV.tFalse)∨(k=3∧T=Nm.put n)∨(k=4∧T=JV.q s)) (h63:l.length+T.length≤140737488355328):
  Calls Tryz.prog 36 #[o,.agg #[.int .i64 k,.int .i64 n,.string ⟨s.toArray⟩,.slice A L c0,.slice A' M c0']] w fun e w'=>∃ v',e=.returned v'∧Bs w' w0.heap.size v' (l++T)∧Fr w0 w'∧Kt w w':=by
 have HF:=Lib.hid hf
 have HB:∀ ob,Hid (Bs (w.alloc ob) w0.heap.size o l):=fun ob=>hb.keep ((Fr.refl w).alloc ob)
 clear hf hb
 rcases hk with ⟨rfl,rfl⟩ | ⟨rfl,rfl,rfl⟩ | ⟨rfl,hn,rfl⟩ | ⟨rfl,hT⟩ | ⟨rfl,hT⟩
 ·go_enter Tryz.func36,Tryz.ntmps36
  go_wp2_with (at_builtin;refine wpl_bt_k rfl (.tmp 13) (.const _) rfl w0 (HF.out.alloc _) o l rfl (HB _).out ⟨#[110,117,108,108]⟩ rfl h63 ?_;intro v' w3 hb3 hf3 hk3 _;have HB3:=Lib.hid hb3;have HF3:=Lib.hid hf3;have HK3:=Lib.hid (((Kt.refl w).alloc _).trans hk3);clear hb3 hf3 hk3)
  go_ret
  exact ⟨_,rfl,HB3.out,HF3.out,HK3.out⟩
 ·go_enter Tryz.func36,Tryz.ntmps36
  go_wp2_with (at_builtin;refine wpl_bt_k rfl (.tmp 20) (.const _) rfl w0 (HF.out.alloc _) o l rfl (HB _).out ⟨#[116,114,117,101]⟩ rfl h63 ?_;intro v' w3 hb3 hf3 hk3 _;have HB3:=Lib.hid hb3;have HF3:=Lib.hid hf3;have HK3:=Lib.hid (((Kt.refl w).alloc _).trans hk3);clear hb3 hf3 hk3)
  go_ret
  exact ⟨_,rfl,HB3.out,HF3.out,HK3.out⟩
 ·have hne:(n == 1)=false:=by rw [beq_eq_false_iff_ne];exact hn
  go_enter Tryz.func36,Tryz.ntmps36
  go_wp2_with (at_builtin;refine wpl_bt_k rfl (.tmp 22) (.const _) rfl w0 (HF.out.alloc _) o l rfl (HB _).out ⟨#[102,97,108,115,101]⟩ rfl h63 ?_;intro v' w3 hb3 hf3 hk3 _;have HB3:=Lib.hid hb3;have HF3:=Lib.hid hf3;have HK3:=Lib.hid (((Kt.refl w).alloc _).trans hk3);clear hb3 hf3 hk3)
  go_ret
  exact ⟨_,rfl,HB3.out,HF3.out,HK3.out⟩
 ·have HT:=Lib.hid hT
  clear hT
  go_enter Tryz.func36,Tryz.ntmps36
  go_wp2_with (first
   | (go_at_call 58;refine (put_any n _ hn1 hn2).mono ?_;rintro e w1 ⟨rfl,hw1⟩;have HF1:=Lib.hid ((HF.out.alloc _).trans hw1);have HB1:=Lib.hid ((HB _).out.keep hw1);have HK1:=Lib.hid (((Kt.refl w).alloc _).trans (Kt.of hw1));clear hw1)
   | (at_builtin;refine wpl_bt_k rfl (.tmp 26) (.tmp 29) rfl w0 HF1.out o l rfl HB1.out ⟨(Nm.put n).toArray⟩ rfl (by show _+(Nm.put n).toArray.size≤_;rw [← HT.out];simpa using h63) ?_;intro v' w3 hb3 hf3 hk3 _;have HB3:=Lib.hid hb3;have HF3:=Lib.hid hf3;have HK3:=Lib.hid (HK1.out.trans hk3);clear hb3 hf3 hk3))
  go_ret
  exact ⟨_,rfl,by rw [HT.out];exact HB3.out,HF3.out,HK3.out⟩
 ·have HT:=Lib.hid hT
  clear hT
  go_enter Tryz.func36,Tryz.ntmps36
  go_wp2_with (go_at_call 59;refine (equote_is w0 s o l _ (HF.out.alloc _) (HB _).out hs (by rw [← HT.out];exact h63)).mono ?_;rintro e w1 ⟨v',rfl,hb3,hf3,hk3,_⟩;have HB3:=Lib.hid hb3;have HF3:=Lib.hid hf3;have HK3:=Lib.hid (((Kt.refl w).alloc _).trans hk3);clear hb3 hf3 hk3)
  go_ret
  exact ⟨_,rfl,by rw [HT.out];exact HB3.out,HF3.out,HK3.out⟩

theorem wrtL_at {l:List JV} {i:Nat} {b:Bool} (h:i<l.length):JV.wrtL (l.drop i) b=(if b then [] else [44])++JV.wrt l[i]++JV.wrtL (l.drop (i+1)) false:=by
 rw [List.drop_eq_getElem_cons h,JV.wrtL_cons]
theorem wrtM_at {l:List (List UInt8 × JV)} {i:Nat} {b:Bool} (h:i<l.length):JV.wrtM (l.drop i) b=(if b then [] else [44])++(JV.q l[i].1++58::JV.wrt l[i].2)++JV.wrtM (l.drop (i+1)) false:=by
 rw [List.drop_eq_getElem_cons h,JV.wrtM_cons]

def WrI (w0 w wr:World) (o:Value) (T rest:List UInt8):Prop:=∃ l',Bs wr w0.heap.size o l'∧Fr w0 wr∧Kt w wr∧l'++rest=T
theorem len_app {a b T:List UInt8} (h:a++b=T) (hT:T.length+1≤140737488355328):a.length+b.length+1≤140737488355328:=by
 have:=congrArg List.length h
 rw [List.length_append] at this
 omega

theorem write_list (n:Int) (s:List UInt8) (ls:List JV) (A:Option Addr) (c0:Nat) (A':Option Addr) (c0' M:Nat) (w0 w:World) (o:Value) (l:List UInt8) (hf:Fr w0 w) (hb:Bs w w0.heap.size o l)
  (hls:LsC w (Lo w0.heap.size) A ls) (h63:l.length+(JV.wrtL ls true).length+2≤140737488355328) (hl63:ls.length≤140737488355328) (ih:∀ v∈ls,∀ x,WrAt v x):
  Calls Tryz.prog 36 #[o,.agg #[.int .i64 5,.int .i64 n,.string ⟨s.toArray⟩,.slice A ls.length c0,.slice A' M c0']] w fun e w'=>∃ v',e=.returned v'∧Bs w' w0.heap.size v' (l++91::(JV.wrtL ls true++[93]))∧Fr w0 w'∧Kt w w':=by
 have HF:=Lib.hid hf
 have HB:∀ ob,Hid (Bs (w.alloc ob) w0.heap.size o l):=fun ob=>hb.keep ((Fr.refl w).alloc ob)
 have HLS:=Lib.hid hls
 have HIH:=Lib.hid ih
 obtain ⟨L,hL⟩:∃ L,ls.length=L:=⟨_,rfl⟩
 obtain ⟨W,hW⟩:∃ W,JV.wrtL ls true=W:=⟨_,rfl⟩
 rw [hW] at h63 ⊢
 have HW:=Lib.hid hW
 rw [hL] at hl63 ⊢
 have HL:=Lib.hid hL
 have hT:Hid ((l++91::W).length+1≤140737488355328):=by show _≤_;simp;omega
 have h640:l.length+1≤140737488355328:=by omega
 have htt:∃ tt,tt≠5∧tt=25:=⟨_,by decide,rfl⟩
 clear hf hb hls ih hL hW htt
 go_enter Tryz.func36,Tryz.ntmps36
 go_wp2_with (at_builtin;refine wpl_bl_k rfl (.tmp 39) (.tmp 40) rfl w0 (HF.out.alloc _) o l rfl (HB _).out [91] rfl (by simp) rfl rfl rfl h640 ?_;intro v' w3 hb3 hf3 hk3;have hb5:w3.cell? ⟨w.heap.size,3,none⟩=some (.slice A L c0):=(by rw [hk3.cell (heap_made _ _ _) (by decide),World.cell?_alloc_at _ _ _ _ (by simp)];rfl);have HB3:=Lib.hid hb3;have HF3:=Lib.hid hf3;have HK3:=Lib.hid (((Kt.refl w).alloc _).trans hk3);clear hb3 hf3 hk3)
 go_loopw [0,45] (fun o2 j wr=>∃ (i:Nat) (o1:Value),i≤L∧o1=o2∧j=.int .i64 i∧Hid (WrI w0 w wr o1 (l++91::W) (JV.wrtL (ls.drop i) (i == 0)))) (fun _ j _=>L - (intOf j).toNat)
 case atStart=>exact ⟨0,_,by omega,rfl,rfl,Lib.hid ⟨_,HB3.out,HF3.out,HK3.out,by rw [List.drop_zero];show _++JV.wrtL ls true=_;rw [HW.out];simp⟩⟩
 case round=>
  obtain ⟨i,o1,hi,rfl,rfl,hI⟩:=hrel
  obtain ⟨l1,hb1,hf1,hk1,ht1⟩:=hI.out
  have hlen:=len_app ht1 hT.out
  have HB1:∀ ob,Hid (Bs (wr.alloc ob) w0.heap.size o1 l1):=fun ob=>hb1.keep ((Fr.refl wr).alloc ob)
  have HBP:=Lib.hid hb1
  have HF1:=Lib.hid hf1
  have HK1:=Lib.hid hk1
  have HT1:=Lib.hid ht1
  by_cases h:i<L
  ·have hil:i<ls.length:=by have:=HL.out;omega
   obtain ⟨b,ob,B,dd,B',dd',rfl,hbb,⟨e1,e2,e3,e4,e5⟩,hiv⟩:=(HLS.out.two HF.out hf1) i hil
   have hw:=wrtL_at (b:=i == 0) hil
   have hih:=HIH.out ls[i] (List.getElem_mem hil)
   obtain ⟨u,hu⟩:∃ u,ls[i]=u:=⟨_,rfl⟩
   rw [hu] at e1 e2 e3 e4 e5 hiv hw hih
   rw [hw] at ht1 hlen
   have HT2:=Lib.hid ht1
   have HIU:=Lib.hid hih
   have HIV:=Lib.hid hiv
   clear hu hb1 hf1 hk1 ht1 hw hih hiv
   have h':(i:Int)<(L:Int):=by omega
   simp only [List.length_append] at hlen
   rcases Nat.eq_zero_or_pos i with h0 | h0
   ·subst h0
    simp only [Nat.zero_mul,Nat.add_zero] at e1 e2 e3 e4 e5
    simp only [beq_self_eq_true,if_true,List.length_nil] at hlen
    go_wp2_with (go_at_call 36;refine ((HIU.out (vA u B dd B' dd')).call w0 rfl (HF1.out.alloc _) (HB1 _).out (HIV.out.two HF1.out (HF1.out.alloc _)) (by omega)).mono ?_;rintro e w2 ⟨v2,rfl,hb2,hf2,hk2⟩;have HB2:=Lib.hid hb2;have HF2:=Lib.hid hf2;have HK2:=Lib.hid ((HK1.out.alloc _).trans hk2);clear hb2 hf2 hk2)
    refine ⟨⟨1,_,by omega,rfl,by go_num,Lib.hid ⟨_,HB2.out,HF2.out,HK2.out,?_⟩⟩,by simp [intOf];omega⟩
    rw [← HT2.out];simp
   ·have hi0:decide ((0:Int)<(i:Int))=true:=decide_eq_true (by omega)
    have hi1:(i == 0)=false:=by rw [beq_eq_false_iff_ne];omega
    rw [hi1] at hlen
    simp only [Bool.false_eq_true,if_false,List.length_cons,List.length_nil] at hlen
    go_wp2_with (first
     | (go_at_call 36;refine ((HIU.out (vA u B dd B' dd')).call w0 rfl HF4.out HB4.out (HIV.out.two HF1.out HF4.out) (by simp only [List.length_append,List.length_cons,List.length_nil];omega)).mono ?_;rintro e w2 ⟨v2,rfl,hb2,hf2,hk2⟩;have HB2:=Lib.hid hb2;have HF2:=Lib.hid hf2;have HK2:=Lib.hid (HK4.out.trans hk2);clear hb2 hf2 hk2)
     | (at_builtin;refine wpl_bl_k rfl (.tmp 52) (.tmp 53) rfl w0 (HF1.out.alloc _) o1 l1 rfl (HB1 _).out [44] rfl (by simp) rfl rfl rfl (by simp only [List.length_cons,List.length_nil];omega) ?_;intro v' w4 hb4 hf4 hk4;have hy0:=hk4.cell (o:=0) (heap_made _ _ _) (by decide);have hy1:=hk4.cell (o:=1) (heap_made _ _ _) (by decide);have hy2:=hk4.cell (o:=2) (heap_made _ _ _) (by decide);have hy3:=hk4.cell (o:=3) (heap_made _ _ _) (by decide);have hy4:=hk4.cell (o:=4) (heap_made _ _ _) (by decide);have HB4:=Lib.hid hb4;have HF4:=Lib.hid hf4;have HK4:=Lib.hid ((HK1.out.alloc _).trans hk4);clear hb4 hf4 hk4))
    refine ⟨⟨i+1,_,by omega,rfl,by go_num,Lib.hid ⟨_,HB2.out,HF2.out,HK2.out,?_⟩⟩,by simp [intOf];omega⟩
    rw [← HT2.out,hi1];simp
  ·obtain rfl:i=L:=by omega
   have hd:l1=l++91::W:=by
    have:=HT1.out
    rw [← HL.out,List.drop_length,JV.wrtL_nil,List.append_nil] at this
    exact this
   have HD:=Lib.hid hd
   have hz:l1.length+1≤140737488355328:=by omega
   clear hb1 hf1 hk1 ht1 hd
   go_wp2_with (at_builtin;refine wpl_bl_k rfl (.tmp 59) (.tmp 60) rfl w0 HF1.out o1 l1 rfl HBP.out [93] rfl (by simp) rfl rfl rfl hz ?_;intro v' w4 hb4 hf4 hk4;have HB4:=Lib.hid hb4;have HF4:=Lib.hid hf4;have HK4:=Lib.hid (HK1.out.trans hk4);clear hb4 hf4 hk4)
   go_ret
   exact ⟨_,rfl,by have:=HB4.out;rw [HD.out] at this;simpa using this,HF4.out,HK4.out⟩
/- The walk of emit.write: maps. -/

def MBox (w:World) (Y:Nat) (nm:List UInt8) (u:JV) (B:Option Addr) (d:Nat) (B':Option Addr) (d':Nat):Prop:=
 w.heap[Y]? = some (.cells #[.string ⟨nm.toArray⟩,.int .i64 u.kd,.int .i64 u.nm,.string ⟨u.tx.toArray⟩,.slice B u.ls.length d,.slice B' u.ms.length d'] 38 (0,0))
def MCells (w:World) (Y:Nat) (nm:List UInt8) (u:JV) (B:Option Addr) (d:Nat) (B':Option Addr) (d':Nat):Prop:=
 w.cell? ⟨Y,0,none⟩=some (.string ⟨nm.toArray⟩)∧w.cell? ⟨Y,1,none⟩=some (.int .i64 u.kd)∧w.cell? ⟨Y,2,none⟩=some (.int .i64 u.nm)∧w.cell? ⟨Y,3,none⟩=some (.string ⟨u.tx.toArray⟩)∧w.cell? ⟨Y,4,none⟩=some (.slice B u.ls.length d)∧w.cell? ⟨Y,5,none⟩=some (.slice B' u.ms.length d')
theorem MBox.cells {w:World} {Y:Nat} {nm:List UInt8} {u:JV} {B:Option Addr} {d:Nat} {B':Option Addr} {d':Nat} (h:MBox w Y nm u B d B' d'):MCells w Y nm u B d B' d':=by
 unfold MBox at h
 refine ⟨?_,?_,?_,?_,?_,?_⟩ <;> simp [World.cell?,h]
theorem MBox.kt {w w':World} {Y:Nat} {nm:List UInt8} {u:JV} {B:Option Addr} {d:Nat} {B':Option Addr} {d':Nat} (h:MBox w Y nm u B d B' d') (k:Kt w w'):MBox w' Y nm u B d B' d':=k.obj h (by decide)
theorem SM.kt {w w':World} {Y:Nat} {nm:List UInt8} {u:JV} {B:Option Addr} {d:Nat} {B':Option Addr} {d':Nat} (h:MBox w Y nm u B d B' d') (k:Kt w w'):MBox w' Y nm u B d B' d'∧MCells w' Y nm u B d B' d':=⟨h.kt k,(h.kt k).cells⟩

theorem grown_undrew {w w':World} {r:Option Nat} (h:w.drew.grownBy w' r):w.grownBy w' r:=⟨h.os,h.tape,h.output,h.size,h.block⟩

theorem write_map (k n:Int) (s:List UInt8) (ms:List (List UInt8 × JV)) (A:Option Addr) (c0 L:Nat) (A':Option Addr) (c0':Nat) (w0 w:World) (o:Value) (l:List UInt8) (hf:Fr w0 w) (hb:Bs w w0.heap.size o l)
  (hk:k≠1∧k≠2∧k≠3∧k≠4∧k≠5)
  (hls:MsC w (Lo w0.heap.size) A' ms) (h63:l.length+(JV.wrtM ms true).length+2≤140737488355328) (hl63:ms.length≤140737488355328) (ih:∀ p∈ms,∀ x,WrAt p.2 x):
  Calls Tryz.prog 36 #[o,.agg #[.int .i64 k,.int .i64 n,.string ⟨s.toArray⟩,.slice A L c0,.slice A' ms.length c0']] w fun e w'=>∃ v',e=.returned v'∧Bs w' w0.heap.size v' (l++123::(JV.wrtM ms true++[125]))∧Fr w0 w'∧Kt w w':=by
 obtain ⟨k1,k2,k3,k4,k5⟩:=hk
 have q1:(k == 1)=false:=by rw [beq_eq_false_iff_ne];exact k1
 have q2:(k == 2)=false:=by rw [beq_eq_false_iff_ne];exact k2
 have q3:(k == 3)=false:=by rw [beq_eq_false_iff_ne];exact k3
 have q4:(k == 4)=false:=by rw [beq_eq_false_iff_ne];exact k4
 have q5:(k == 5)=false:=by rw [beq_eq_false_iff_ne];exact k5
 have HF:=Lib.hid hf
 have HB:∀ ob,Hid (Bs (w.alloc ob) w0.heap.size o l):=fun ob=>hb.keep ((Fr.refl w).alloc ob)
 have HLS:=Lib.hid hls
 have HIH:=Lib.hid ih
 obtain ⟨M,hM⟩:∃ M,ms.length=M:=⟨_,rfl⟩
 obtain ⟨W,hW⟩:∃ W,JV.wrtM ms true=W:=⟨_,rfl⟩
 rw [hW] at h63 ⊢
 have HW:=Lib.hid hW
 rw [hM] at hl63 ⊢
 have HL:=Lib.hid hM
 have hT:Hid ((l++123::W).length+1≤140737488355328):=by show _≤_;simp;omega
 have h640:l.length+1≤140737488355328:=by omega
 clear hf hb hls ih hM hW k1 k2 k3 k4 k5
 go_enter Tryz.func36,Tryz.ntmps36
 go_wp2_with (at_builtin;refine wpl_bl_k rfl (.tmp 62) (.tmp 63) rfl w0 (HF.out.alloc _) o l rfl (HB _).out [123] rfl (by simp) rfl rfl rfl h640 ?_;intro v' w3 hb3 hf3 hk3;have hb5:w3.cell? ⟨w.heap.size,4,none⟩=some (.slice A' M c0'):=(by rw [hk3.cell (heap_made _ _ _) (by decide),World.cell?_alloc_at _ _ _ _ (by simp)];rfl);have HB3:=Lib.hid hb3;have HF3:=Lib.hid hf3;have HK3:=Lib.hid (((Kt.refl w).alloc _).trans hk3);clear hb3 hf3 hk3)
 go_loopw [0,68] (fun o2 j wr=>∃ (i:Nat) (o1:Value),i≤M∧o1=o2∧j=.int .i64 i∧Hid (WrI w0 w wr o1 (l++123::W) (JV.wrtM (ms.drop i) (i == 0)))) (fun _ j _=>M - (intOf j).toNat)
 case atStart=>exact ⟨0,_,by omega,rfl,rfl,Lib.hid ⟨_,HB3.out,HF3.out,HK3.out,by rw [List.drop_zero];show _++JV.wrtM ms true=_;rw [HW.out];simp⟩⟩
 case round=>
  obtain ⟨i,o1,hi,rfl,rfl,hI⟩:=hrel
  obtain ⟨l1,hb1,hf1,hk1,ht1⟩:=hI.out
  have hlen:=len_app ht1 hT.out
  have HB1:∀ ob,Hid (Bs (wr.alloc ob) w0.heap.size o1 l1):=fun ob=>hb1.keep ((Fr.refl wr).alloc ob)
  have HBP:=Lib.hid hb1
  have HF1:=Lib.hid hf1
  have HK1:=Lib.hid hk1
  have HT1:=Lib.hid ht1
  by_cases h:i<M
  ·have hil:i<ms.length:=by have:=HL.out;omega
   obtain ⟨b,ob,B,dd,B',dd',rfl,hbb,hnl,e0,⟨e1,e2,e3,e4,e5⟩,hiv⟩:=(HLS.out.two HF.out hf1) i hil
   have hw:=wrtM_at (b:=i == 0) hil
   have hih:=HIH.out ms[i] (List.getElem_mem hil)
   obtain ⟨u,hu⟩:∃ u,ms[i]=u:=⟨_,rfl⟩
   rw [hu] at e0 e1 e2 e3 e4 e5 hiv hw hih hnl
   obtain ⟨nm,u⟩:=u
   simp only at e0 e1 e2 e3 e4 e5 hiv hw hih hnl
   rw [hw] at ht1 hlen
   have HT2:=Lib.hid ht1
   have HIU:=Lib.hid hih
   have HIV:=Lib.hid hiv
   clear hu hb1 hf1 hk1 ht1 hw hih hiv
   have h':(i:Int)<(M:Int):=by omega
   simp only [List.length_append,List.length_cons] at hlen
   rcases Nat.eq_zero_or_pos i with h0 | h0
   ·subst h0
    simp only [Nat.zero_mul,Nat.add_zero] at e0 e1 e2 e3 e4 e5
    simp only [beq_self_eq_true,if_true,List.length_nil] at hlen
    go_wp2_with fail
    have hS0:MBox (wr.alloc (.cells #[.string ⟨nm.toArray⟩,.int .i64 u.kd,.int .i64 u.nm,.string ⟨u.tx.toArray⟩,.slice B u.ls.length dd,.slice B' u.ms.length dd'] 38)) wr.heap.size nm u B dd B' dd':=heap_made _ _ _
    generalize hwz:(wr.alloc (.cells #[.string ⟨nm.toArray⟩,.int .i64 u.kd,.int .i64 u.nm,.string ⟨u.tx.toArray⟩,.slice B u.ls.length dd,.slice B' u.ms.length dd'] 38))=wz at hS0 ⊢
    have hS0:=Lib.hid hS0
    have HFz:Hid (Fr w0 wz):=by have:=HF1.out.alloc (.cells #[.string ⟨nm.toArray⟩,.int .i64 u.kd,.int .i64 u.nm,.string ⟨u.tx.toArray⟩,.slice B u.ls.length dd,.slice B' u.ms.length dd'] 38);rw [hwz] at this;exact this
    have HKz:Hid (Kt w wz):=by have:=HK1.out.alloc (.cells #[.string ⟨nm.toArray⟩,.int .i64 u.kd,.int .i64 u.nm,.string ⟨u.tx.toArray⟩,.slice B u.ls.length dd,.slice B' u.ms.length dd'] 38);rw [hwz] at this;exact this
    have HBz:Hid (Bs wz w0.heap.size o1 l1):=by have:=(HB1 (.cells #[.string ⟨nm.toArray⟩,.int .i64 u.kd,.int .i64 u.nm,.string ⟨u.tx.toArray⟩,.slice B u.ls.length dd,.slice B' u.ms.length dd'] 38)).out;rw [hwz] at this;exact this
    have hq1:l1.length+(JV.q nm).length≤140737488355328:=by omega
    have hq2:(l1++JV.q nm).length+[(58:UInt8)].length≤140737488355328:=by simp only [List.length_append,List.length_cons,List.length_nil];omega
    have hq3:(l1++JV.q nm++[58]).length+(JV.wrt u).length≤140737488355328:=by simp only [List.length_append,List.length_cons,List.length_nil];omega
    generalize wr.heap.size=Y at hS0 ⊢
    clear hwz
    (go_region_held3 (fun w'=>MBox w' Y nm u B dd B' dd'∧w'.cell? ⟨Y,0,none⟩=some (.string ⟨nm.toArray⟩)∧w'.cell? ⟨Y,1,none⟩=some (.int .i64 u.kd)∧w'.cell? ⟨Y,2,none⟩=some (.int .i64 u.nm)∧w'.cell? ⟨Y,3,none⟩=some (.string ⟨u.tx.toArray⟩)∧w'.cell? ⟨Y,4,none⟩=some (.slice B u.ls.length dd)∧w'.cell? ⟨Y,5,none⟩=some (.slice B' u.ms.length dd'))
     (first | exact SM.kt hS0.out HK7.out | exact SM.kt hS0.out HK6.out | exact SM.kt hS0.out HK5.out | exact SM.kt hS0.out (HK5.out.alloc _) | exact SM.kt hS0.out ((Kt.refl wz).alloc _).drew | exact SM.kt hS0.out (Kt.refl wz).drew)
     (first
      | (go_at_call 59;refine (equote_is w0 nm o1 l1 _ (by first | exact HFz.out.drew | exact (HFz.out.alloc _).drew) (by first | exact HBz.out | exact HBz.out.keep ((Fr.refl _).alloc _).drew) hnl hq1).mono ?_;rintro e w5 ⟨v5,rfl,hb5,hf5,hk5,hg5⟩;(first | (have HLT:=Lib.hid (Bs.lit_kept (news:=[58]) (w:=wz) HBz.out (by decide) (grown_undrew hg5));have HK5:=Lib.hid (((Kt.refl wz).alloc _).drew.trans hk5)) | (have HK5:=Lib.hid ((Kt.refl wz).drew.trans hk5)));have HB5:=Lib.hid hb5;have HF5:=Lib.hid hf5;clear hb5 hf5 hk5 hg5)
      | (refine step_bs_k (by rfl) (.tmp 81) (.tmp 82) (by rfl) w0 HF5.out _ _ (by rfl) HB5.out _ _ [58] (by rfl) HLT.out hq2 ?_;intro v6 w6 hb6 hf6 hk6;have HK6:=Lib.hid (HK5.out.trans hk6);have HB6:=Lib.hid hb6;have HF6:=Lib.hid hf6;clear hb6 hf6 hk6)
      | (refine step_bs_k (by rfl) (.tmp 81) (.tmp 82) (by rfl) w0 (HF5.out.alloc _) _ _ (by rfl) (HB5.out.keep ((Fr.refl _).alloc _)) _ _ [58] (by rfl) (Bs.made _ [58] (by decide)) hq2 ?_;intro v6 w6 hb6 hf6 hk6;have HK6:=Lib.hid ((HK5.out.alloc _).trans hk6);have HB6:=Lib.hid hb6;have HF6:=Lib.hid hf6;clear hb6 hf6 hk6)
      | (go_at_call 36;refine ((HIU.out (vA u B dd B' dd')).call w0 rfl HF6.out HB6.out (HIV.out.two HF1.out HF6.out) hq3).mono ?_;rintro e w7 ⟨v7,rfl,hb7,hf7,hk7⟩;have HK7:=Lib.hid (HK6.out.trans hk7);have HB7:=Lib.hid hb7;have HF7:=Lib.hid hf7;clear hb7 hf7 hk7)))
    all_goals
     go_wp2_with fail
    all_goals
     refine ⟨⟨1,_,by omega,rfl,by go_num,Lib.hid ⟨_,HB7.out,HF7.out,HKz.out.trans HK7.out,?_⟩⟩,by simp [intOf];omega⟩
     rw [← HT2.out];simp
   ·have hi0:decide ((0:Int)<(i:Int))=true:=decide_eq_true (by omega)
    have hi1:(i == 0)=false:=by rw [beq_eq_false_iff_ne];omega
    rw [hi1] at hlen
    simp only [Bool.false_eq_true,if_false,List.length_cons,List.length_nil] at hlen
    go_wp2_with (at_builtin;refine wpl_bl_k rfl (.tmp 75) (.tmp 76) rfl w0 (HF1.out.alloc _) o1 l1 rfl (HB1 _).out [44] rfl (by simp) rfl rfl rfl (by simp only [List.length_cons,List.length_nil];omega) ?_;intro v4 wz hb4 hf4 hk4;have hS0:Hid (MBox wz wr.heap.size nm u B dd B' dd'):=MBox.kt (heap_made wr _ _) hk4;have HBz:=Lib.hid hb4;have HFz:=Lib.hid hf4;have HKz:=Lib.hid ((HK1.out.alloc _).trans hk4);clear hb4 hf4 hk4)
    have hq1:(l1++[44]).length+(JV.q nm).length≤140737488355328:=by simp only [List.length_append,List.length_cons,List.length_nil];omega
    have hq2:(l1++[44]++JV.q nm).length+[(58:UInt8)].length≤140737488355328:=by simp only [List.length_append,List.length_cons,List.length_nil];omega
    have hq3:(l1++[44]++JV.q nm++[58]).length+(JV.wrt u).length≤140737488355328:=by simp only [List.length_append,List.length_cons,List.length_nil];omega
    generalize wr.heap.size=Y at hS0 ⊢
    (go_region_held3 (fun w'=>MBox w' Y nm u B dd B' dd'∧w'.cell? ⟨Y,0,none⟩=some (.string ⟨nm.toArray⟩)∧w'.cell? ⟨Y,1,none⟩=some (.int .i64 u.kd)∧w'.cell? ⟨Y,2,none⟩=some (.int .i64 u.nm)∧w'.cell? ⟨Y,3,none⟩=some (.string ⟨u.tx.toArray⟩)∧w'.cell? ⟨Y,4,none⟩=some (.slice B u.ls.length dd)∧w'.cell? ⟨Y,5,none⟩=some (.slice B' u.ms.length dd'))
     (first | exact SM.kt hS0.out HK7.out | exact SM.kt hS0.out HK6.out | exact SM.kt hS0.out HK5.out | exact SM.kt hS0.out (HK5.out.alloc _) | exact SM.kt hS0.out ((Kt.refl wz).alloc _).drew | exact SM.kt hS0.out (Kt.refl wz).drew)
     (first
      | (go_at_call 59;refine (equote_is w0 nm v4 (l1++[44]) _ (by first | exact HFz.out.drew | exact (HFz.out.alloc _).drew) (by first | exact HBz.out | exact HBz.out.keep ((Fr.refl _).alloc _).drew) hnl hq1).mono ?_;rintro e w5 ⟨v5,rfl,hb5,hf5,hk5,hg5⟩;(first | (have HLT:=Lib.hid (Bs.lit_kept (news:=[58]) (w:=wz) HBz.out (by decide) (grown_undrew hg5));have HK5:=Lib.hid (((Kt.refl wz).alloc _).drew.trans hk5)) | (have HK5:=Lib.hid ((Kt.refl wz).drew.trans hk5)));have HB5:=Lib.hid hb5;have HF5:=Lib.hid hf5;clear hb5 hf5 hk5 hg5)
      | (refine step_bs_k (by rfl) (.tmp 81) (.tmp 82) (by rfl) w0 HF5.out _ _ (by rfl) HB5.out _ _ [58] (by rfl) HLT.out hq2 ?_;intro v6 w6 hb6 hf6 hk6;have HK6:=Lib.hid (HK5.out.trans hk6);have HB6:=Lib.hid hb6;have HF6:=Lib.hid hf6;clear hb6 hf6 hk6)
      | (refine step_bs_k (by rfl) (.tmp 81) (.tmp 82) (by rfl) w0 (HF5.out.alloc _) _ _ (by rfl) (HB5.out.keep ((Fr.refl _).alloc _)) _ _ [58] (by rfl) (Bs.made _ [58] (by decide)) hq2 ?_;intro v6 w6 hb6 hf6 hk6;have HK6:=Lib.hid ((HK5.out.alloc _).trans hk6);have HB6:=Lib.hid hb6;have HF6:=Lib.hid hf6;clear hb6 hf6 hk6)
      | (go_at_call 36;refine ((HIU.out (vA u B dd B' dd')).call w0 rfl HF6.out HB6.out (HIV.out.two HF1.out HF6.out) hq3).mono ?_;rintro e w7 ⟨v7,rfl,hb7,hf7,hk7⟩;have HK7:=Lib.hid (HK6.out.trans hk7);have HB7:=Lib.hid hb7;have HF7:=Lib.hid hf7;clear hb7 hf7 hk7)))
    all_goals
     go_wp2_with fail
    all_goals
     refine ⟨⟨i+1,_,by omega,rfl,by go_num,Lib.hid ⟨_,HB7.out,HF7.out,HKz.out.trans HK7.out,?_⟩⟩,by simp [intOf];omega⟩
     rw [← HT2.out,hi1];simp
  ·obtain rfl:i=M:=by omega
   have hd:l1=l++123::W:=by
    have:=HT1.out
    rw [← HL.out,List.drop_length,JV.wrtM_nil,List.append_nil] at this
    exact this
   have HD:=Lib.hid hd
   have hz:l1.length+1≤140737488355328:=by omega
   clear hb1 hf1 hk1 ht1 hd
   go_wp2_with (at_builtin;refine wpl_bl_k rfl (.tmp 88) (.tmp 89) rfl w0 HF1.out o1 l1 rfl HBP.out [125] rfl (by simp) rfl rfl rfl hz ?_;intro v' w4 hb4 hf4 hk4;have HB4:=Lib.hid hb4;have HF4:=Lib.hid hf4;have HK4:=Lib.hid (HK1.out.trans hk4);clear hb4 hf4 hk4)
   go_ret
   exact ⟨_,rfl,by have:=HB4.out;rw [HD.out] at this;simpa using this,HF4.out,HK4.out⟩

theorem write_is (v:JV):∀ x:Value,WrAt v x:=by
 induction v using JV.ind with
 | h k n s l m ihl ihm=>
  intro x w0 w o ll hf hb hv h63
  obtain ⟨⟨hn1,hn2⟩,_,hs,hl63,hm63⟩:=hv.facts
  obtain ⟨A,c0,A',c0',rfl,hls,hms⟩:=hv.open_
  have hn1:-9223372036854775808≤n:=hn1
  have hn2:n≤9223372036854775807:=hn2
  have hs:s.length≤140737488355328:=hs
  have hl63:l.length≤140737488355328:=hl63
  have hm63:m.length≤140737488355328:=hm63
  have hls:LsC w (Lo w0.heap.size) A l:=hls
  have hms:MsC w (Lo w0.heap.size) A' m:=hms
  show Calls Tryz.prog _ #[o,.agg #[.int .i64 k,.int .i64 n,.string ⟨s.toArray⟩,.slice A l.length c0,.slice A' m.length c0']] _ _
  rw [JV.wrt_mk] at h63 ⊢
  by_cases h1:k=1
  ·rw [if_pos h1] at h63 ⊢
   exact write_leaf k n s A c0 _ A' c0' _ _ w0 w o ll hf hb hn1 hn2 hs (.inl ⟨h1,rfl⟩) h63
  rw [if_neg h1] at h63 ⊢
  by_cases h2:k=2
  ·rw [if_pos h2] at h63 ⊢
   by_cases h2n:n=1
   ·rw [if_pos h2n] at h63 ⊢
    exact write_leaf k n s A c0 _ A' c0' _ _ w0 w o ll hf hb hn1 hn2 hs (.inr (.inl ⟨h2,h2n,rfl⟩)) h63
   ·rw [if_neg h2n] at h63 ⊢
    exact write_leaf k n s A c0 _ A' c0' _ _ w0 w o ll hf hb hn1 hn2 hs (.inr (.inr (.inl ⟨h2,h2n,rfl⟩))) h63
  rw [if_neg h2] at h63 ⊢
  by_cases h3:k=3
  ·rw [if_pos h3] at h63 ⊢
   exact write_leaf k n s A c0 _ A' c0' _ _ w0 w o ll hf hb hn1 hn2 hs (.inr (.inr (.inr (.inl ⟨h3,rfl⟩)))) h63
  rw [if_neg h3] at h63 ⊢
  by_cases h4:k=4
  ·rw [if_pos h4] at h63 ⊢
   exact write_leaf k n s A c0 _ A' c0' _ _ w0 w o ll hf hb hn1 hn2 hs (.inr (.inr (.inr (.inr ⟨h4,rfl⟩)))) h63
  rw [if_neg h4] at h63 ⊢
  by_cases h5:k=5
  ·rw [if_pos h5] at h63 ⊢
   subst h5
   exact write_list n s l A c0 A' c0' _ w0 w o ll hf hb hls (by simp only [List.length_cons,List.length_append,List.length_nil] at h63;omega) hl63 ihl
  ·rw [if_neg h5] at h63 ⊢
   exact write_map k n s m A c0 _ A' c0' w0 w o ll hf hb ⟨h1,h2,h3,h4,h5⟩ hms (by simp only [List.length_cons,List.length_append,List.length_nil] at h63;omega) hm63 ihm
end Go.Proofs.YtlmcfhokfiibkaaGreatDoor
