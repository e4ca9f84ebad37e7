/- The walk of refs.three. -/
import Derived.Test.YtdhakbghdcfncaaGreatDoorRfa
import Derived.Test.YtdhakbghdcfncaaGreatDoorPcx
import Derived.Deep.WholeRow
import Derived.Test.YtdhakbghdcfncaaGreatDoorPtj
import Derived.Test.YtdhakbghdcfncaaGreatDoorReadM
import Derived.Deep.CutRange
import Derived.Deep.QuietTactic
import Derived.BigQuiet
namespace Go.Proofs.YtdhakbghdcfncaaGreatDoor
set_option maxRecDepth 100000
set_option maxHeartbeats 8000000
set_option linter.unusedVariables false
set_option linter.unusedSimpArgs false
open Go.RowKit

theorem results_a3 {fn:Func} {p q:Tmp} {ty:TypeId} (hf:fn.results=#[.cell p ty,.tmp q]) (hT:ty=103) (w:World) (X:Nat) {tmps:Array Value} {x:Value} (h2:tmps.getD p undef=.pointer (some ⟨X,0,none⟩)) (h3:tmps.getD q undef=x)
  (v0 v1 v2:Value) (hV:Blk w X #[v0,v1,v2] 103):
  (results fn tmps).run Tryz.prog w=.ok (.tuple #[.agg #[v0,v1,v2],x]) w:=by
 subst hT
 have a0:=hV.cell 0
 have a1:=hV.cell 1
 have a2:=hV.cell 2
 simp at h2 h3 a0 a1 a2
 simp [results,hf,h2,h3,go_sem,a0,a1,a2]
theorem box3 {w:World} {X:Nat} {a b c:Value} {T:TypeId} (h:Blk w X #[a,b,c] T):(w.cell? ⟨X,0,none⟩=some a∧w.cell? ⟨X,1,none⟩=some b∧w.cell? ⟨X,2,none⟩=some c)∧w.frozen? ⟨X,0,none⟩=false∧w.frozen? ⟨X,1,none⟩=false∧w.frozen? ⟨X,2,none⟩=false:=
 ⟨⟨h.cell 0,h.cell 1,h.cell 2⟩,h.free 0,h.free 1,h.free 2⟩
def ThP (r:Option (List UInt8 × List UInt8 × List UInt8)) (e:Ending):Prop:=match r with
 | none=>∃ s0 s1 s2:ByteArray,e=.returned (.tuple #[.agg #[.string s0,.string s1,.string s2],.bool false])
 | some t=>e=.returned (.tuple #[.agg #[.string ⟨t.1.toArray⟩,.string ⟨t.2.1.toArray⟩,.string ⟨t.2.2.toArray⟩],.bool true])
theorem Rf.txt_eq (v:JV) (s:List UInt8):Rf.txt v s=if ((Pt.get v s).getD JV.zeroV).kd=4 then some ((Pt.get v s).getD JV.zeroV).tx else none:=by
 unfold Rf.txt
 cases Pt.get v s with
 | none=>rfl
 | some x=>rfl
theorem get_or (v y:JV) (B:Option Addr) (d:Nat) (B':Option Addr) (d':Nat) (s:List UInt8) (w:World) (Z:Nat) (hZ:Z≤w.heap.size) (h:InV w (Lo Z) v (vA v B d B' d')) (hy:(Pt.get v s).getD JV.zeroV=y):
  Calls Tryz.prog 30 #[.agg #[.int .i64 v.kd,.int .i64 v.nm,.string ⟨v.tx.toArray⟩,.slice B v.ls.length d,.slice B' v.ms.length d'],.string ⟨s.toArray⟩] w fun e w'=>(∃ (b:Bool) (C:Option Addr) (f:Nat) (C':Option Addr) (f':Nat),e=.returned (.tuple #[.agg #[.int .i64 y.kd,.int .i64 y.nm,.string ⟨y.tx.toArray⟩,.slice C y.ls.length f,.slice C' y.ms.length f'],.bool b]))∧Fr w w':=by
 have hg:=get_is v B d B' d' s w Z hZ h
 cases ho:Pt.get v s with
 | none=>
  rw [ho] at hg hy
  subst hy
  exact hg.mono (fun e w' k=>⟨⟨false,none,0,none,0,k.1⟩,k.2⟩)
 | some x=>
  rw [ho] at hg hy
  obtain rfl:x=y:=hy
  exact hg.mono (fun e w' k=>by obtain ⟨C,f,C',f',h1,_,h2⟩:=k;exact ⟨⟨true,C,f,C',f',h1⟩,h2⟩)
theorem three_no (v:JV) (B:Option Addr) (d:Nat) (B':Option Addr) (d':Nat) (w:World) (h:¬ (v.kd=6∧v.ms.length=3)):
  Calls Tryz.prog 62 #[.agg #[.int .i64 v.kd,.int .i64 v.nm,.string ⟨v.tx.toArray⟩,.slice B v.ls.length d,.slice B' v.ms.length d']] w fun e w'=>ThP (Rf.three v) e∧Fr w w':=by
 have HR:Hid (Rf.three v=none):=Lib.hid (by unfold Rf.three;rw [if_neg h])
 have hb:(v.kd != 6)=true∨((v.kd != 6)=false∧((v.ms.length:Int) != 3)=true):=by
  by_cases h6:v.kd=6
  ·refine .inr ⟨by rw [h6];rfl,?_⟩
   rw [bne_iff_ne]
   intro h3
   exact h ⟨h6,by omega⟩
  ·exact .inl (by rw [bne_iff_ne];exact h6)
 clear h
 go_enter Tryz.func62,Tryz.ntmps62
 go_upto_region 2 with fail
 have hx0:Blk (((w.alloc (.cells #[.int .i64 v.kd,.int .i64 v.nm,.string ⟨v.tx.toArray⟩,.slice B v.ls.length d,.slice B' v.ms.length d'] 25)).alloc (.cells #[.string ⟨#[]⟩,.string ⟨#[]⟩,.string ⟨#[]⟩] 103)).alloc (.cells #[.string ⟨#[]⟩,.string ⟨#[]⟩,.string ⟨#[]⟩] 103)) w.heap.size #[.int .i64 v.kd,.int .i64 v.nm,.string ⟨v.tx.toArray⟩,.slice B v.ls.length d,.slice B' v.ms.length d'] 25:=(Blk.made w _ _).keep (((Fr.refl _).alloc _).alloc _)
 have hy0:Blk (((w.alloc (.cells #[.int .i64 v.kd,.int .i64 v.nm,.string ⟨v.tx.toArray⟩,.slice B v.ls.length d,.slice B' v.ms.length d'] 25)).alloc (.cells #[.string ⟨#[]⟩,.string ⟨#[]⟩,.string ⟨#[]⟩] 103)).alloc (.cells #[.string ⟨#[]⟩,.string ⟨#[]⟩,.string ⟨#[]⟩] 103)) (w.heap.size+1) #[.string ⟨#[]⟩,.string ⟨#[]⟩,.string ⟨#[]⟩] 103:=Blk.keep (boxz (Blk.made (w.alloc _) _ _)) ((Fr.refl _).alloc _)
 have hz0:Blk (((w.alloc (.cells #[.int .i64 v.kd,.int .i64 v.nm,.string ⟨v.tx.toArray⟩,.slice B v.ls.length d,.slice B' v.ms.length d'] 25)).alloc (.cells #[.string ⟨#[]⟩,.string ⟨#[]⟩,.string ⟨#[]⟩] 103)).alloc (.cells #[.string ⟨#[]⟩,.string ⟨#[]⟩,.string ⟨#[]⟩] 103)) (w.heap.size+1+1) #[.string ⟨#[]⟩,.string ⟨#[]⟩,.string ⟨#[]⟩] 103:=boxz2 (Blk.made ((w.alloc _).alloc _) _ _)
 have hf0:Fr w (((w.alloc (.cells #[.int .i64 v.kd,.int .i64 v.nm,.string ⟨v.tx.toArray⟩,.slice B v.ls.length d,.slice B' v.ms.length d'] 25)).alloc (.cells #[.string ⟨#[]⟩,.string ⟨#[]⟩,.string ⟨#[]⟩] 103)).alloc (.cells #[.string ⟨#[]⟩,.string ⟨#[]⟩,.string ⟨#[]⟩] 103)):=(((Fr.refl w).alloc _).alloc _).alloc _
 generalize (((w.alloc (.cells #[.int .i64 v.kd,.int .i64 v.nm,.string ⟨v.tx.toArray⟩,.slice B v.ls.length d,.slice B' v.ms.length d'] 25)).alloc (.cells #[.string ⟨#[]⟩,.string ⟨#[]⟩,.string ⟨#[]⟩] 103)).alloc (.cells #[.string ⟨#[]⟩,.string ⟨#[]⟩,.string ⟨#[]⟩] 103))=W1 at hx0 hy0 hz0 hf0 ⊢
 generalize w.heap.size+1+1=X3 at hz0 ⊢
 have HX2:Hid (w.heap.size≤w.heap.size+1):=Lib.hid (by omega)
 generalize w.heap.size+1=X2 at hy0 HX2 ⊢
 obtain ⟨X1,hX1⟩:∃ X,w.heap.size=X:=⟨_,rfl⟩
 rw [hX1] at hx0 ⊢
 clear hX1
 obtain ⟨⟨c0,c1,c2,c3,c4⟩,_⟩:=box5 hx0
 obtain ⟨⟨s0,s1,s2⟩,sf0,sf1,sf2⟩:=box3 hy0
 obtain ⟨⟨t0,t1,t2⟩,tf0,tf1,tf2⟩:=box3 hz0
 have HY0:=Lib.hid hy0
 have HF0:=Lib.hid hf0
 clear hx0 hy0 hf0 hz0
 rcases hb with h1 | ⟨h1,h2⟩
 all_goals
  go_wp2_with fail
  refine bodyPost_ret (results_a3 (by rfl) rfl _ X2 (by rfl) (by rfl) _ _ _ (((HY0.out.set 0 _).set 1 _).set 2 _)) rfl ?_
  refine ⟨by rw [HR.out];exact ⟨_,_,_,rfl⟩,?_⟩
  exact (((HF0.out.setCell (p:=⟨X2,0,none⟩) HX2.out _).setCell (p:=⟨X2,1,none⟩) HX2.out _).setCell (p:=⟨X2,2,none⟩) HX2.out _)
theorem three_yes (v:JV) (B:Option Addr) (d:Nat) (B':Option Addr) (d':Nat) (w:World) (Z:Nat) (hZ:Z≤w.heap.size) (h:InV w (Lo Z) v (vA v B d B' d')) (h6:v.kd=6) (h3:v.ms.length=3):
  Calls Tryz.prog 62 #[.agg #[.int .i64 v.kd,.int .i64 v.nm,.string ⟨v.tx.toArray⟩,.slice B v.ls.length d,.slice B' v.ms.length d']] w fun e w'=>ThP (Rf.three v) e∧Fr w w':=by
 obtain ⟨y0,hy0⟩:∃ y,(Pt.get v Rf.nOf).getD JV.zeroV=y:=⟨_,rfl⟩
 obtain ⟨y1,hy1⟩:∃ y,(Pt.get v Rf.nName).getD JV.zeroV=y:=⟨_,rfl⟩
 obtain ⟨y2,hy2⟩:∃ y,(Pt.get v Rf.nPath).getD JV.zeroV=y:=⟨_,rfl⟩
 have HG0:Hid (∀ W,Fr w W→Calls Tryz.prog 30 #[.agg #[.int .i64 v.kd,.int .i64 v.nm,.string ⟨v.tx.toArray⟩,.slice B v.ls.length d,.slice B' v.ms.length d'],.string ⟨#[114,101,115,117,108,116,79,102]⟩] W fun e w'=>(∃ (b:Bool) (C:Option Addr) (f:Nat) (C':Option Addr) (f':Nat),e=.returned (.tuple #[.agg #[.int .i64 y0.kd,.int .i64 y0.nm,.string ⟨y0.tx.toArray⟩,.slice C y0.ls.length f,.slice C' y0.ms.length f'],.bool b]))∧Fr W w'):=Lib.hid (fun W hW=>get_or v y0 B d B' d' Rf.nOf W Z (Nat.le_trans hZ hW.size) (h.keep hZ hW) hy0)
 have HG1:Hid (∀ W,Fr w W→Calls Tryz.prog 30 #[.agg #[.int .i64 v.kd,.int .i64 v.nm,.string ⟨v.tx.toArray⟩,.slice B v.ls.length d,.slice B' v.ms.length d'],.string ⟨#[110,97,109,101]⟩] W fun e w'=>(∃ (b:Bool) (C:Option Addr) (f:Nat) (C':Option Addr) (f':Nat),e=.returned (.tuple #[.agg #[.int .i64 y1.kd,.int .i64 y1.nm,.string ⟨y1.tx.toArray⟩,.slice C y1.ls.length f,.slice C' y1.ms.length f'],.bool b]))∧Fr W w'):=Lib.hid (fun W hW=>get_or v y1 B d B' d' Rf.nName W Z (Nat.le_trans hZ hW.size) (h.keep hZ hW) hy1)
 have HG2:Hid (∀ W,Fr w W→Calls Tryz.prog 30 #[.agg #[.int .i64 v.kd,.int .i64 v.nm,.string ⟨v.tx.toArray⟩,.slice B v.ls.length d,.slice B' v.ms.length d'],.string ⟨#[112,97,116,104]⟩] W fun e w'=>(∃ (b:Bool) (C:Option Addr) (f:Nat) (C':Option Addr) (f':Nat),e=.returned (.tuple #[.agg #[.int .i64 y2.kd,.int .i64 y2.nm,.string ⟨y2.tx.toArray⟩,.slice C y2.ls.length f,.slice C' y2.ms.length f'],.bool b]))∧Fr W w'):=Lib.hid (fun W hW=>get_or v y2 B d B' d' Rf.nPath W Z (Nat.le_trans hZ hW.size) (h.keep hZ hW) hy2)
 have hrt:Rf.three v=if y0.kd=4∧y1.kd=4∧y2.kd=4 then some (y0.tx,y1.tx,y2.tx) else none:=by
  unfold Rf.three
  rw [if_pos ⟨h6,h3⟩,Rf.txt_eq,Rf.txt_eq,Rf.txt_eq,hy0,hy1,hy2]
  by_cases a0:y0.kd=4 <;> by_cases a1:y1.kd=4 <;> by_cases a2:y2.kd=4 <;> simp [a0,a1,a2]
 have HRN:Hid (∀ i:Nat,i<3 → ¬ (y0.kd=4∧y1.kd=4∧y2.kd=4)→Rf.three v=none):=Lib.hid (fun _ _ hn=>by rw [hrt,if_neg hn])
 have HRY:Hid (y0.kd=4∧y1.kd=4∧y2.kd=4→Rf.three v=some (y0.tx,y1.tx,y2.tx)):=Lib.hid (fun hn=>by rw [hrt,if_pos hn])
 clear hrt h
 have q6:(v.kd != 6)=false:=by rw [h6];rfl
 have q3:((v.ms.length:Int) != 3)=false:=by rw [h3];rfl
 clear h6 h3 hy0 hy1 hy2
 go_enter Tryz.func62,Tryz.ntmps62
 go_upto_region 2 with fail
 have hx0:Blk (((w.alloc (.cells #[.int .i64 v.kd,.int .i64 v.nm,.string ⟨v.tx.toArray⟩,.slice B v.ls.length d,.slice B' v.ms.length d'] 25)).alloc (.cells #[.string ⟨#[]⟩,.string ⟨#[]⟩,.string ⟨#[]⟩] 103)).alloc (.cells #[.string ⟨#[]⟩,.string ⟨#[]⟩,.string ⟨#[]⟩] 103)) w.heap.size #[.int .i64 v.kd,.int .i64 v.nm,.string ⟨v.tx.toArray⟩,.slice B v.ls.length d,.slice B' v.ms.length d'] 25:=(Blk.made w _ _).keep (((Fr.refl _).alloc _).alloc _)
 have hy0:Blk (((w.alloc (.cells #[.int .i64 v.kd,.int .i64 v.nm,.string ⟨v.tx.toArray⟩,.slice B v.ls.length d,.slice B' v.ms.length d'] 25)).alloc (.cells #[.string ⟨#[]⟩,.string ⟨#[]⟩,.string ⟨#[]⟩] 103)).alloc (.cells #[.string ⟨#[]⟩,.string ⟨#[]⟩,.string ⟨#[]⟩] 103)) (w.heap.size+1) #[.string ⟨#[]⟩,.string ⟨#[]⟩,.string ⟨#[]⟩] 103:=Blk.keep (boxz (Blk.made (w.alloc _) _ _)) ((Fr.refl _).alloc _)
 have hz0:Blk (((w.alloc (.cells #[.int .i64 v.kd,.int .i64 v.nm,.string ⟨v.tx.toArray⟩,.slice B v.ls.length d,.slice B' v.ms.length d'] 25)).alloc (.cells #[.string ⟨#[]⟩,.string ⟨#[]⟩,.string ⟨#[]⟩] 103)).alloc (.cells #[.string ⟨#[]⟩,.string ⟨#[]⟩,.string ⟨#[]⟩] 103)) (w.heap.size+1+1) #[.string ⟨#[]⟩,.string ⟨#[]⟩,.string ⟨#[]⟩] 103:=boxz2 (Blk.made ((w.alloc _).alloc _) _ _)
 have hf0:Fr w (((w.alloc (.cells #[.int .i64 v.kd,.int .i64 v.nm,.string ⟨v.tx.toArray⟩,.slice B v.ls.length d,.slice B' v.ms.length d'] 25)).alloc (.cells #[.string ⟨#[]⟩,.string ⟨#[]⟩,.string ⟨#[]⟩] 103)).alloc (.cells #[.string ⟨#[]⟩,.string ⟨#[]⟩,.string ⟨#[]⟩] 103)):=(((Fr.refl w).alloc _).alloc _).alloc _
 generalize (((w.alloc (.cells #[.int .i64 v.kd,.int .i64 v.nm,.string ⟨v.tx.toArray⟩,.slice B v.ls.length d,.slice B' v.ms.length d'] 25)).alloc (.cells #[.string ⟨#[]⟩,.string ⟨#[]⟩,.string ⟨#[]⟩] 103)).alloc (.cells #[.string ⟨#[]⟩,.string ⟨#[]⟩,.string ⟨#[]⟩] 103))=W1 at hx0 hy0 hz0 hf0 ⊢
 have HX3:Hid (w.heap.size<w.heap.size+1+1∧w.heap.size+1<w.heap.size+1+1∧w.heap.size+1+1<W1.heap.size):=Lib.hid ⟨by omega,by omega,hz0.lt⟩
 generalize w.heap.size+1+1=X3 at hz0 HX3 ⊢
 have HX2:Hid (w.heap.size≤w.heap.size+1):=Lib.hid (by omega)
 generalize w.heap.size+1=X2 at hy0 HX2 HX3 ⊢
 obtain ⟨X1,hX1⟩:∃ X,w.heap.size=X:=⟨_,rfl⟩
 have HX1:=Lib.hid hX1
 rw [hX1] at hx0 HX3 ⊢
 clear hX1
 obtain ⟨⟨c0,c1,c2,c3,c4⟩,_⟩:=box5 hx0
 have HX0:=Lib.hid hx0
 have HY0:=Lib.hid hy0
 have HZ0:=Lib.hid hz0
 have HF0:=Lib.hid hf0
 clear hx0 hy0 hf0 hz0
 go_upto_region 5 with fail
 clear c0 c1 c2 c3 c4
 go_loopw [20] (fun j wr=>∃ (i:Nat) (s0 s1 s2:ByteArray),i≤3∧j=.int .i64 i∧Hid (Blk wr X3 #[.string s0,.string s1,.string s2] 103)∧Hid ((i=0→s0=⟨#[]⟩∧s1=⟨#[]⟩∧s2=⟨#[]⟩)∧(i=1→(y0.kd=4∧s0=⟨y0.tx.toArray⟩)∧s1=⟨#[]⟩∧s2=⟨#[]⟩)∧(i=2→(y0.kd=4∧s0=⟨y0.tx.toArray⟩)∧(y1.kd=4∧s1=⟨y1.tx.toArray⟩)∧s2=⟨#[]⟩)∧(i=3→(y0.kd=4∧s0=⟨y0.tx.toArray⟩)∧(y1.kd=4∧s1=⟨y1.tx.toArray⟩)∧(y2.kd=4∧s2=⟨y2.tx.toArray⟩)))∧Hid (FrX X3 W1 wr)) (fun j _=>3 - (intOf j).toNat)
 case atStart=>exact ⟨0,_,_,_,by omega,rfl,HZ0,Lib.hid ⟨fun _=>⟨rfl,rfl,rfl⟩,fun h=>absurd h (by omega),fun h=>absurd h (by omega),fun h=>absurd h (by omega)⟩,Lib.hid (FrX.refl X3 W1)⟩
 case round=>
  obtain ⟨i,s0',s1',s2',hi,hj,hB3,hS,hX⟩:=hrel
  have HB3:=hB3
  have hX10:X1≠X3:=by have:=HX3.out;omega
  have hX20:X2≠X3:=by have:=HX3.out;omega
  have hxr:=HX0.out.frx hX.out hX10
  have hyr:=HY0.out.frx hX.out hX20
  have HFA:Hid (Fr w wr):=Lib.hid (Fr.thenY HF0.out (by have:=HX3.out;have:=HX1.out;omega) (Nat.le_of_lt HX3.out.2.2) hX.out)
  have HFR:Hid (Fr w wr):=HFA
  clear hX10 hX20
  rcases (by omega:i=0∨i=1∨i=2∨i=3) with rfl | rfl | rfl | rfl
  ·obtain rfl:u20=.int .i64 0:=hj
   obtain ⟨rfl,rfl,rfl⟩:=hS.out.1 rfl
   have HT3:=HB3
   have HX1R:=Lib.hid hxr
   have HX2R:=Lib.hid hyr
   obtain ⟨⟨x0,x1,x2,x3,x4⟩,_⟩:=box5 hxr
   clear hxr hyr
   have ix:∀ W:World,(Instr.index 103 (.agg #[.string ⟨#[114,101,115,117,108,116,79,102]⟩,.string ⟨#[110,97,109,101]⟩,.string ⟨#[112,97,116,104]⟩]) (.int .i64 0)).run Tryz.prog W=.ok (.string ⟨#[114,101,115,117,108,116,79,102]⟩) W:=fun _=>by kernel_rfl
   go_upto_region 8 with (go_at_call 30;refine (HG0.out _ HFR.out).mono ?_;rintro e w1 ⟨⟨b,C,f,C',f',rfl⟩,hf⟩;have HF1:=Lib.hid hf;clear hf)
   clear x0 x1 x2 x3 x4
   have hb9:Blk (w1.alloc (.cells #[.int .i64 y0.kd,.int .i64 y0.nm,.string ⟨y0.tx.toArray⟩,.slice C y0.ls.length f,.slice C' y0.ms.length f'] 25)) w1.heap.size #[.int .i64 y0.kd,.int .i64 y0.nm,.string ⟨y0.tx.toArray⟩,.slice C y0.ls.length f,.slice C' y0.ms.length f'] 25:=Blk.made w1 _ _
   have hf9:Fr wr (w1.alloc (.cells #[.int .i64 y0.kd,.int .i64 y0.nm,.string ⟨y0.tx.toArray⟩,.slice C y0.ls.length f,.slice C' y0.ms.length f'] 25)):=HF1.out.alloc _
   have HX9:Hid (wr.heap.size≤w1.heap.size):=Lib.hid HF1.out.size
   generalize (w1.alloc (.cells #[.int .i64 y0.kd,.int .i64 y0.nm,.string ⟨y0.tx.toArray⟩,.slice C y0.ls.length f,.slice C' y0.ms.length f'] 25))=W9 at hb9 hf9 ⊢
   generalize w1.heap.size=X9 at hb9 HX9 ⊢
   have ht9:Blk W9 X3 #[.string ⟨#[]⟩,.string ⟨#[]⟩,.string ⟨#[]⟩] 103:=HT3.out.keep hf9
   have hz9:Blk W9 X2 #[.string ⟨#[]⟩,.string ⟨#[]⟩,.string ⟨#[]⟩] 103:=HX2R.out.keep hf9
   obtain ⟨⟨z0,z1,z2,z3,z4⟩,_⟩:=box5 hb9
   obtain ⟨⟨t0,t1,t2⟩,tf0,tf1,tf2⟩:=box3 ht9
   obtain ⟨⟨s0,s1,s2⟩,sf0,sf1,sf2⟩:=box3 hz9
   have HF9:=Lib.hid hf9
   have HT9:=Lib.hid ht9
   have HZ9:=Lib.hid hz9
   clear hf9 ht9 hz9 hb9
   by_cases hk:y0.kd=4
   ·have q4:(y0.kd != 4)=false:=by rw [hk];rfl
    clear s0 s1 s2 sf0 sf1 sf2
    go_wp2_with fail
    refine ⟨⟨1,⟨y0.tx.toArray⟩,⟨#[]⟩,⟨#[]⟩,by omega,rfl,Lib.hid (HT9.out.set 0 _),Lib.hid ⟨fun h=>absurd h (by omega),fun _=>⟨⟨hk,rfl⟩,rfl,rfl⟩,fun h=>absurd h (by omega),fun h=>absurd h (by omega)⟩,Lib.hid ((hX.out.fr HF9.out).setCell rfl _)⟩,by simp [intOf]⟩
   ·have q4:(y0.kd != 4)=true:=by rw [bne_iff_ne];exact hk
    have HR:Hid (Rf.three v=none):=HRN.out 0 (by omega) (by intro h;exact hk (h.1))
    go_wp2_with fail
    refine bodyPost_ret (results_a3 (by rfl) rfl _ X2 (by rfl) (by rfl) _ _ _ (((HZ9.out.set 0 _).set 1 _).set 2 _)) rfl ?_
    refine ⟨by rw [HR.out];exact ⟨_,_,_,rfl⟩,?_⟩
    exact (((((HFA.out.trans HF9.out).setCell (p:=⟨X2,0,none⟩) HX2.out _).setCell (p:=⟨X2,1,none⟩) HX2.out _).setCell (p:=⟨X2,2,none⟩) HX2.out _))
  ·obtain rfl:u20=.int .i64 1:=hj
   obtain ⟨⟨hq0,rfl⟩,rfl,rfl⟩:=hS.out.2.1 rfl
   have HT3:=HB3
   have HX1R:=Lib.hid hxr
   have HX2R:=Lib.hid hyr
   obtain ⟨⟨x0,x1,x2,x3,x4⟩,_⟩:=box5 hxr
   clear hxr hyr
   have ix:∀ W:World,(Instr.index 103 (.agg #[.string ⟨#[114,101,115,117,108,116,79,102]⟩,.string ⟨#[110,97,109,101]⟩,.string ⟨#[112,97,116,104]⟩]) (.int .i64 1)).run Tryz.prog W=.ok (.string ⟨#[110,97,109,101]⟩) W:=fun _=>by kernel_rfl
   go_upto_region 8 with (go_at_call 30;refine (HG1.out _ HFR.out).mono ?_;rintro e w1 ⟨⟨b,C,f,C',f',rfl⟩,hf⟩;have HF1:=Lib.hid hf;clear hf)
   clear x0 x1 x2 x3 x4
   have hb9:Blk (w1.alloc (.cells #[.int .i64 y1.kd,.int .i64 y1.nm,.string ⟨y1.tx.toArray⟩,.slice C y1.ls.length f,.slice C' y1.ms.length f'] 25)) w1.heap.size #[.int .i64 y1.kd,.int .i64 y1.nm,.string ⟨y1.tx.toArray⟩,.slice C y1.ls.length f,.slice C' y1.ms.length f'] 25:=Blk.made w1 _ _
   have hf9:Fr wr (w1.alloc (.cells #[.int .i64 y1.kd,.int .i64 y1.nm,.string ⟨y1.tx.toArray⟩,.slice C y1.ls.length f,.slice C' y1.ms.length f'] 25)):=HF1.out.alloc _
   have HX9:Hid (wr.heap.size≤w1.heap.size):=Lib.hid HF1.out.size
   generalize (w1.alloc (.cells #[.int .i64 y1.kd,.int .i64 y1.nm,.string ⟨y1.tx.toArray⟩,.slice C y1.ls.length f,.slice C' y1.ms.length f'] 25))=W9 at hb9 hf9 ⊢
   generalize w1.heap.size=X9 at hb9 HX9 ⊢
   have ht9:Blk W9 X3 #[.string ⟨y0.tx.toArray⟩,.string ⟨#[]⟩,.string ⟨#[]⟩] 103:=HT3.out.keep hf9
   have hz9:Blk W9 X2 #[.string ⟨#[]⟩,.string ⟨#[]⟩,.string ⟨#[]⟩] 103:=HX2R.out.keep hf9
   obtain ⟨⟨z0,z1,z2,z3,z4⟩,_⟩:=box5 hb9
   obtain ⟨⟨t0,t1,t2⟩,tf0,tf1,tf2⟩:=box3 ht9
   obtain ⟨⟨s0,s1,s2⟩,sf0,sf1,sf2⟩:=box3 hz9
   have HF9:=Lib.hid hf9
   have HT9:=Lib.hid ht9
   have HZ9:=Lib.hid hz9
   clear hf9 ht9 hz9 hb9
   by_cases hk:y1.kd=4
   ·have q4:(y1.kd != 4)=false:=by rw [hk];rfl
    clear s0 s1 s2 sf0 sf1 sf2
    go_wp2_with fail
    refine ⟨⟨2,⟨y0.tx.toArray⟩,⟨y1.tx.toArray⟩,⟨#[]⟩,by omega,rfl,Lib.hid (HT9.out.set 1 _),Lib.hid ⟨fun h=>absurd h (by omega),fun h=>absurd h (by omega),fun _=>⟨⟨hq0,rfl⟩,⟨hk,rfl⟩,rfl⟩,fun h=>absurd h (by omega)⟩,Lib.hid ((hX.out.fr HF9.out).setCell rfl _)⟩,by simp [intOf]⟩
   ·have q4:(y1.kd != 4)=true:=by rw [bne_iff_ne];exact hk
    have HR:Hid (Rf.three v=none):=HRN.out 1 (by omega) (by intro h;exact hk (h.2.1))
    go_wp2_with fail
    refine bodyPost_ret (results_a3 (by rfl) rfl _ X2 (by rfl) (by rfl) _ _ _ (((HZ9.out.set 0 _).set 1 _).set 2 _)) rfl ?_
    refine ⟨by rw [HR.out];exact ⟨_,_,_,rfl⟩,?_⟩
    exact (((((HFA.out.trans HF9.out).setCell (p:=⟨X2,0,none⟩) HX2.out _).setCell (p:=⟨X2,1,none⟩) HX2.out _).setCell (p:=⟨X2,2,none⟩) HX2.out _))
  ·obtain rfl:u20=.int .i64 2:=hj
   obtain ⟨⟨hq0,rfl⟩,⟨hq1,rfl⟩,rfl⟩:=hS.out.2.2.1 rfl
   have HT3:=HB3
   have HX1R:=Lib.hid hxr
   have HX2R:=Lib.hid hyr
   obtain ⟨⟨x0,x1,x2,x3,x4⟩,_⟩:=box5 hxr
   clear hxr hyr
   have ix:∀ W:World,(Instr.index 103 (.agg #[.string ⟨#[114,101,115,117,108,116,79,102]⟩,.string ⟨#[110,97,109,101]⟩,.string ⟨#[112,97,116,104]⟩]) (.int .i64 2)).run Tryz.prog W=.ok (.string ⟨#[112,97,116,104]⟩) W:=fun _=>by kernel_rfl
   go_upto_region 8 with (go_at_call 30;refine (HG2.out _ HFR.out).mono ?_;rintro e w1 ⟨⟨b,C,f,C',f',rfl⟩,hf⟩;have HF1:=Lib.hid hf;clear hf)
   clear x0 x1 x2 x3 x4
   have hb9:Blk (w1.alloc (.cells #[.int .i64 y2.kd,.int .i64 y2.nm,.string ⟨y2.tx.toArray⟩,.slice C y2.ls.length f,.slice C' y2.ms.length f'] 25)) w1.heap.size #[.int .i64 y2.kd,.int .i64 y2.nm,.string ⟨y2.tx.toArray⟩,.slice C y2.ls.length f,.slice C' y2.ms.length f'] 25:=Blk.made w1 _ _
   have hf9:Fr wr (w1.alloc (.cells #[.int .i64 y2.kd,.int .i64 y2.nm,.string ⟨y2.tx.toArray⟩,.slice C y2.ls.length f,.slice C' y2.ms.length f'] 25)):=HF1.out.alloc _
   have HX9:Hid (wr.heap.size≤w1.heap.size):=Lib.hid HF1.out.size
   generalize (w1.alloc (.cells #[.int .i64 y2.kd,.int .i64 y2.nm,.string ⟨y2.tx.toArray⟩,.slice C y2.ls.length f,.slice C' y2.ms.length f'] 25))=W9 at hb9 hf9 ⊢
   generalize w1.heap.size=X9 at hb9 HX9 ⊢
   have ht9:Blk W9 X3 #[.string ⟨y0.tx.toArray⟩,.string ⟨y1.tx.toArray⟩,.string ⟨#[]⟩] 103:=HT3.out.keep hf9
   have hz9:Blk W9 X2 #[.string ⟨#[]⟩,.string ⟨#[]⟩,.string ⟨#[]⟩] 103:=HX2R.out.keep hf9
   obtain ⟨⟨z0,z1,z2,z3,z4⟩,_⟩:=box5 hb9
   obtain ⟨⟨t0,t1,t2⟩,tf0,tf1,tf2⟩:=box3 ht9
   obtain ⟨⟨s0,s1,s2⟩,sf0,sf1,sf2⟩:=box3 hz9
   have HF9:=Lib.hid hf9
   have HT9:=Lib.hid ht9
   have HZ9:=Lib.hid hz9
   clear hf9 ht9 hz9 hb9
   by_cases hk:y2.kd=4
   ·have q4:(y2.kd != 4)=false:=by rw [hk];rfl
    clear s0 s1 s2 sf0 sf1 sf2
    go_wp2_with fail
    refine ⟨⟨3,⟨y0.tx.toArray⟩,⟨y1.tx.toArray⟩,⟨y2.tx.toArray⟩,by omega,rfl,Lib.hid (HT9.out.set 2 _),Lib.hid ⟨fun h=>absurd h (by omega),fun h=>absurd h (by omega),fun h=>absurd h (by omega),fun _=>⟨⟨hq0,rfl⟩,⟨hq1,rfl⟩,⟨hk,rfl⟩⟩⟩,Lib.hid ((hX.out.fr HF9.out).setCell rfl _)⟩,by simp [intOf]⟩
   ·have q4:(y2.kd != 4)=true:=by rw [bne_iff_ne];exact hk
    have HR:Hid (Rf.three v=none):=HRN.out 2 (by omega) (by intro h;exact hk (h.2.2))
    go_wp2_with fail
    refine bodyPost_ret (results_a3 (by rfl) rfl _ X2 (by rfl) (by rfl) _ _ _ (((HZ9.out.set 0 _).set 1 _).set 2 _)) rfl ?_
    refine ⟨by rw [HR.out];exact ⟨_,_,_,rfl⟩,?_⟩
    exact (((((HFA.out.trans HF9.out).setCell (p:=⟨X2,0,none⟩) HX2.out _).setCell (p:=⟨X2,1,none⟩) HX2.out _).setCell (p:=⟨X2,2,none⟩) HX2.out _))
  ·obtain rfl:u20=.int .i64 3:=hj
   obtain ⟨⟨k0,rfl⟩,⟨k1,rfl⟩,⟨k2,rfl⟩⟩:=hS.out.2.2.2 rfl
   have HR:=Lib.hid (HRY.out ⟨k0,k1,k2⟩)
   have HYR:=Lib.hid hyr
   obtain ⟨⟨t0,t1,t2⟩,tf0,tf1,tf2⟩:=box3 HB3.out
   obtain ⟨⟨s0,s1,s2⟩,sf0,sf1,sf2⟩:=box3 hyr
   clear hxr hyr k0 k1 k2
   go_wp2_with fail
   refine bodyPost_ret (results_a3 (by rfl) rfl _ X2 (by rfl) (by rfl) _ _ _ (((HYR.out.set 0 _).set 1 _).set 2 _)) rfl ?_
   refine ⟨by rw [HR.out];exact rfl,?_⟩
   exact (((HFA.out.setCell (p:=⟨X2,0,none⟩) HX2.out _).setCell (p:=⟨X2,1,none⟩) HX2.out _).setCell (p:=⟨X2,2,none⟩) HX2.out _)
theorem three_is (v:JV) (B:Option Addr) (d:Nat) (B':Option Addr) (d':Nat) (w:World) (Z:Nat) (hZ:Z≤w.heap.size) (h:InV w (Lo Z) v (vA v B d B' d')):
  Calls Tryz.prog 62 #[.agg #[.int .i64 v.kd,.int .i64 v.nm,.string ⟨v.tx.toArray⟩,.slice B v.ls.length d,.slice B' v.ms.length d']] w fun e w'=>ThP (Rf.three v) e∧Fr w w':=by
 by_cases h2:v.kd=6∧v.ms.length=3
 ·exact three_yes v B d B' d' w Z hZ h h2.1 h2.2
 ·exact three_no v B d B' d' w h2
/- Calls in memory; slices.IndexFunc at calls. -/

abbrev CallV:=(List UInt8 × JV) × List UInt8
def CsR (w:World) (A:Option Addr) (l:List CallV):Prop:=∀ i (h:i<l.length),∃ b o C f C' f',A=some ⟨b,o,none⟩∧b<w.heap.size∧w.cell? ⟨b,o+i*7,none⟩=some (.string ⟨l[i].1.1.toArray⟩)∧VC w b (o+i*7+1) l[i].1.2 C f C' f'∧w.cell? ⟨b,o+i*7+6,none⟩=some (.string ⟨l[i].2.toArray⟩)∧InV w (Lo w.heap.size) l[i].1.2 (vA l[i].1.2 C f C' f')
def CsZ (w:World) (Z:Nat) (A:Option Addr) (l:List CallV):Prop:=∀ i (h:i<l.length),∃ b o C f C' f',A=some ⟨b,o,none⟩∧b<Z∧w.cell? ⟨b,o+i*7,none⟩=some (.string ⟨l[i].1.1.toArray⟩)∧VC w b (o+i*7+1) l[i].1.2 C f C' f'∧w.cell? ⟨b,o+i*7+6,none⟩=some (.string ⟨l[i].2.toArray⟩)∧InV w (Lo Z) l[i].1.2 (vA l[i].1.2 C f C' f')
theorem CsR.z {w:World} {A:Option Addr} {l:List CallV} (h:CsR w A l):CsZ w w.heap.size A l:=h
theorem CsZ.keep {w w':World} {Z:Nat} {A:Option Addr} {l:List CallV} (h:CsZ w Z A l) (hZ:Z≤w.heap.size) (hf:Fr w w'):CsZ w' Z A l:=fun i hi=>by
 obtain ⟨b,o,C,f,C',f',hA,hb,h0,h1,h2,h3⟩:=h i hi
 exact ⟨b,o,C,f,C',f',hA,hb,(hf.cell (Nat.lt_of_lt_of_le hb hZ)).trans h0,h1.keep (fun j=>hf.cell (Nat.lt_of_lt_of_le hb hZ)),(hf.cell (Nat.lt_of_lt_of_le hb hZ)).trans h2,h3.keep hZ hf⟩
theorem Rf.look_at:∀ {l:List CallV} {s:List UInt8} {i:Nat} (hi:i<l.length),(∀ y (hy:y<l.length),y<i→l[y].2≠s)→l[i].2=s→Rf.look l s=some l[i]
 | c::l,s,0,hi,_,h=>by
  have h:c.2=s:=h
  unfold Rf.look
  rw [List.find?_cons_of_pos (by simp [h])];rfl
 | c::l,s,i+1,hi,hn,h=>by
  have h0:¬ c.2=s:=hn 0 (by simp) (by omega)
  have:=Rf.look_at (l:=l) (s:=s) (i:=i) (by simpa using hi) (fun y hy hyi=>by have:=hn (y+1) (by simpa using hy) (by omega);simpa using this) (by simpa using h)
  unfold Rf.look at this ⊢
  rw [List.find?_cons_of_neg (by simp [h0]),this];rfl
theorem Rf.look_none:∀ {l:List CallV} {s:List UInt8},(∀ y (hy:y<l.length),l[y].2≠s)→Rf.look l s=none
 | l,s,h=>by
  unfold Rf.look
  rw [List.find?_eq_none]
  intro c hc
  obtain ⟨y,hy,rfl⟩:=List.mem_iff_getElem.1 hc
  simpa using h y hy
theorem rlead1_is (nt it s:List UInt8) (u:JV) (C:Option Addr) (f:Nat) (C':Option Addr) (f':Nat) (X:Nat) (w:World) (hX:X<w.heap.size) (hc:w.cell? ⟨X,0,none⟩=some (.string ⟨s.toArray⟩)) (b:Bool) (hb:decide (it=s)=b):
  Calls Tryz.prog 64 #[.agg #[.string ⟨nt.toArray⟩,.int .i64 u.kd,.int .i64 u.nm,.string ⟨u.tx.toArray⟩,.slice C u.ls.length f,.slice C' u.ms.length f',.string ⟨it.toArray⟩],.pointer (some ⟨X,0,none⟩)] w fun e w'=>e=.returned (.bool b)∧Fr w w':=by
 have h2:((⟨it.toArray⟩:ByteArray).toList == (⟨s.toArray⟩:ByteArray).toList)=b:=by rw [bl_beq'];exact hb
 have h3:(it == s)=b:=by rw [← hb,Bool.eq_iff_iff];simp
 have hc2:=(((Fr.refl w).alloc (.cells #[.string ⟨nt.toArray⟩,.int .i64 u.kd,.int .i64 u.nm,.string ⟨u.tx.toArray⟩,.slice C u.ls.length f,.slice C' u.ms.length f',.string ⟨it.toArray⟩] 47)).cell (o:=0) hX).trans hc
 clear hb
 go_enter Tryz.func64,Tryz.ntmps64
 go_wp2_with fail
 go_ret
 exact ⟨rfl,(Fr.refl w).alloc _⟩
theorem idxlead_is (l:List CallV) (A:Option Addr) (c X:Nat) (s:List UInt8) (w:World) (Z:Nat) (hZ:Z≤w.heap.size) (h:CsZ w Z A l) (hl:l.length≤140737488355328) (hX:X<w.heap.size) (hc:w.cell? ⟨X,0,none⟩=some (.string ⟨s.toArray⟩)):
  Calls Tryz.prog 63 #[.slice A l.length c,(Value.func (.func 64) #[] #[.pointer (some ⟨X,0,none⟩)])] w fun e w'=>(((∀ y (hy:y<l.length),l[y].2≠s)∧e=.returned (.int .i64 (-1))) ∨ ∃ i:Nat,∃ hi:i<l.length,(∀ y (hy:y<l.length),y<i→l[y].2≠s)∧l[i].2=s∧e=.returned (.int .i64 i))∧Fr w w':=by
 have HP:=Lib.hid h
 have hl':(l.length:Int)≤140737488355328:=by omega
 have HW:Hid (∀ W,Fr w W → ∀ (nt it:List UInt8) (u:JV) (C:Option Addr) (f:Nat) (C':Option Addr) (f':Nat) (b:Bool),decide (it=s)=b→Calls Tryz.prog 64 #[.agg #[.string ⟨nt.toArray⟩,.int .i64 u.kd,.int .i64 u.nm,.string ⟨u.tx.toArray⟩,.slice C u.ls.length f,.slice C' u.ms.length f',.string ⟨it.toArray⟩],.pointer (some ⟨X,0,none⟩)] W fun e w'=>e=.returned (.bool b)∧Fr W w'):=Lib.hid (fun W hW nt it u C f C' f' b hb=>rlead1_is nt it s u C f C' f' X W (Nat.lt_of_lt_of_le hX hW.size) ((hW.cell hX).trans hc) b hb)
 clear h hX hc
 go_enter Tryz.func63,Tryz.ntmps63
 go_wp2_with fail
 go_loopw [8] (fun j wr=>∃ (i:Nat),i≤l.length∧j=.int .i64 i∧Hid (∀ y (hy:y<l.length),y<i→l[y].2≠s)∧Hid (Fr w wr)) (fun j _=>l.length - (intOf j).toNat)
 case atStart=>exact ⟨0,by omega,rfl,Lib.hid (fun y _ h=>absurd h (by omega)),Lib.hid (Fr.refl w)⟩
 case round=>
  obtain ⟨i,hi,rfl,hO,hF⟩:=hrel
  by_cases hlt:i<l.length
  ·have hlt':(i:Int)<(l.length:Int):=by omega
   obtain ⟨b,o,C,e,C',e',rfl,hb,c0,⟨c1,c2,c3,c4,c5⟩,c6,hu⟩:=(HP.out.keep hZ hF.out) i hlt
   obtain ⟨q,hq⟩:∃ q,l[i].1.1=q:=⟨_,rfl⟩
   obtain ⟨it,hit⟩:∃ q,l[i].2=q:=⟨_,rfl⟩
   obtain ⟨u,hxu⟩:∃ u,l[i].1.2=u:=⟨_,rfl⟩
   rw [hq] at c0
   rw [hit] at c6
   rw [hxu] at c1 c2 c3 c4 c5
   obtain ⟨cb,hcb⟩:∃ cb,decide (it=s)=cb:=⟨_,rfl⟩
   have HCB:=Lib.hid hcb
   have HQ:=Lib.hid hit
   clear hb hcb hq hxu hu hit
   cases cb
   ·go_wp2_with (go_at_call 64;refine (HW.out _ hF.out _ _ _ _ _ _ _ _ HCB.out).mono ?_;rintro e w1 ⟨rfl,hf⟩;have HF1:=Lib.hid (hF.out.trans hf);clear hf)
    exact ⟨⟨i+1,by omega,by go_num,Lib.hid (fun y hy hyt=>by
     by_cases e:y=i
     ·subst e;rw [HQ.out];exact of_decide_eq_false HCB.out
     ·exact hO.out y hy (by omega)),HF1⟩,by simp [intOf];omega⟩
   ·go_wp2_with (go_at_call 64;refine (HW.out _ hF.out _ _ _ _ _ _ _ _ HCB.out).mono ?_;rintro e w1 ⟨rfl,hf⟩;have HF1:=Lib.hid (hF.out.trans hf);clear hf)
    go_ret
    exact ⟨.inr ⟨i,hlt,hO.out,by rw [HQ.out];exact of_decide_eq_true HCB.out,rfl⟩,HF1.out⟩
  ·obtain rfl:i=l.length:=by omega
   go_wp2_with fail
   go_ret
   exact ⟨.inl ⟨fun y hy=>hO.out y hy hy,rfl⟩,hF.out⟩
/- Chapter 24, plain: how much a pointer leads to; Resolve member by member. -/

namespace Rf
theorem bulk_eq (v:JV):JV.bulk v=3+v.tx.length+JV.bulkL v.ls+JV.bulkM v.ms:=by cases v;exact big_mk _ _ _ _ _
theorem bulkL_app:∀ a b:List JV,JV.bulkL (a++b)=JV.bulkL a+JV.bulkL b
 | [],b=>by show JV.bulkL b=0+_;omega
 | x::a,b=>by rw [List.cons_append,JV.bulkL_cons,JV.bulkL_cons,bulkL_app a b];omega
theorem flat_big (y:JV):JV.bulkL (Pt.flat y)≤JV.bulk y:=by
 unfold Pt.flat
 split
 ·rw [bulk_eq];omega
 ·rw [JV.bulkL_cons];show JV.bulk y+0≤_;omega
theorem step_big {v x:JV} {s:List UInt8} (h:Pt.step v s=some x):JV.bulk x≤JV.bulk v:=by
 rw [bulk_eq v]
 rcases Pt.step_mem h with ⟨_,hm⟩ | ⟨_,n,hm⟩
 ·have:=bigL_mem hm;omega
 ·have:=bigM_mem hm;simp only at this;omega
theorem find_big (st:Bool):∀ (ps:List (List UInt8)) (v y:JV),Pt.find st ps v=some y→JV.bulk y≤JV.bulk v
 | [],v,y,h=>by obtain rfl:=Option.some.inj h;exact Nat.le_refl _
 | p::ps,v,y,h=>by
  rw [Pt.find_cons] at h
  split at h
  ·have hg:∀ (l:List JV) (r:List JV),Pt.gather (Pt.find st ps) l=some r→JV.bulkL r≤JV.bulkL l:=by
    intro l
    induction l with
    | nil=>intro r hr;obtain rfl:=Option.some.inj hr;exact Nat.le_refl _
    | cons x l ih=>
     intro r hr
     rw [Pt.gather_cons] at hr
     cases hx:Pt.find st ps x with
     | none=>rw [hx] at hr;cases hr
     | some z=>
      rw [hx] at hr
      cases hq:Pt.gather (Pt.find st ps) l with
      | none=>rw [hq] at hr;cases hr
      | some q=>
       rw [hq] at hr
       obtain rfl:=Option.some.inj hr
       have h1:=find_big st ps x z hx
       have h2:=ih q hq
       have h3:=flat_big z
       rw [bulkL_app,JV.bulkL_cons];omega
   cases hq:Pt.gather (Pt.find st ps) v.ls with
   | none=>rw [hq] at h;cases h
   | some r=>
    rw [hq] at h
    obtain rfl:=Option.some.inj h
    have:=hg _ _ hq
    rw [bulk_eq v]
    show JV.bulk (.mk 5 0 [] r [])≤_
    rw [big_mk]
    show 3+0+JV.bulkL r+0≤_
    omega
  ·cases hs:Pt.step v p with
   | none=>rw [hs] at h;cases h
   | some x=>
    rw [hs] at h
    exact Nat.le_trans (find_big st ps x y h) (step_big hs)
theorem look_mem {l:List CallP} {s:Tx} {c:CallP} (h:look l s=some c):c∈l:=List.mem_of_find?_eq_some h
theorem lead_big {v y:JV} {done:List CallP} {n:Nat} (hd:∀ c∈done,JV.bulk c.1.2≤n) (h:lead v done=.ok y):JV.bulk y≤n:=by
 unfold lead at h
 split at h
 ·cases h
 ·split at h
  ·cases h
  ·rename_i d hl
   split at h
   ·split at h
    ·cases h
    ·split at h
     ·cases h
     ·rename_i x hx
      obtain rfl:x=y:=by injection h
      exact Nat.le_trans (find_big _ _ _ _ hx) (hd d (look_mem hl))
   ·cases h
def pre (a:List (Tx × JV)):Except Nat (List (Tx × JV))→Except Nat (List (Tx × JV))
 | .error e=>.error e
 | .ok l=>.ok (a++l)
theorem pre_nil (r:Except Nat (List (Tx × JV))):pre [] r=r:=by cases r <;> rfl
theorem pre_pre (a b:List (Tx × JV)) (r:Except Nat (List (Tx × JV))):pre a (pre b r)=pre (a++b) r:=by
 cases r with
 | error e=>rfl
 | ok l=>show Except.ok _=Except.ok _;rw [List.append_assoc]
theorem resM_bare (done:List CallP) (x:Tx × JV) (m:List (Tx × JV)) (p z:Nat) (h:(bare x.1).2=false):resM done (x::m) p z=pre [x] (resM done m p z):=by
 rw [resM,h];rfl
theorem resM_no (done:List CallP) (x:Tx × JV) (m:List (Tx × JV)) (p z:Nat) (h:(bare x.1).2=true) {e:Nat} (hl:lead x.2 done=.error e):resM done (x::m) p z=.error e:=by
 rw [resM,h,if_pos rfl,hl]
theorem resM_long (done:List CallP) (x:Tx × JV) (m:List (Tx × JV)) (p z:Nat) (h:(bare x.1).2=true) {y:JV} (hl:lead x.2 done=.ok y) (hb:p+Rd.nv y > 8192∨z+size y > 65536∨deep y > 12):resM done (x::m) p z=.error 2:=by
 rw [resM,h,if_pos rfl,hl];show (if _ then _ else _)=_;rw [if_pos hb]
theorem resM_yes (done:List CallP) (x:Tx × JV) (m:List (Tx × JV)) (p z:Nat) (h:(bare x.1).2=true) {y:JV} (hl:lead x.2 done=.ok y) (hb:¬ (p+Rd.nv y > 8192∨z+size y > 65536∨deep y > 12)):resM done (x::m) p z=pre [((bare x.1).1,y)] (resM done m (p+Rd.nv y) (z+size y)):=by
 rw [resM,h,if_pos rfl,hl];show (if _ then _ else _)=_;rw [if_neg hb];rfl
theorem bare_le (s:Tx):(bare s).1.length≤s.length:=by
 cases s with
 | nil=>exact Nat.le_refl _
 | cons c r=>
  show (if c=35 then (r,true) else (c::r,false)).1.length≤_
  split <;> simp
theorem getM_big {m:List (Tx × JV)} {s:Tx} {x:JV} (h:Pt.getM m s=some x):JV.bulk x≤JV.bulkM m:=by
 have:=bigM_mem (Pt.getM_mem h);simp only at this;omega
theorem txt_len {v:JV} {s a:Tx} (h:txt v s=some a):a.length≤JV.bulk v:=by
 unfold txt at h
 split at h
 ·rename_i x hg
  split at h
  ·obtain rfl:=Option.some.inj h
   unfold Pt.get at hg
   split at hg
   ·have h1:=getM_big hg
    have h2:=bulk_eq x
    have h3:=bulk_eq v
    omega
   ·cases hg
  ·cases h
 ·cases h
theorem three_len {v:JV} {a b c:Tx} (h:three v=some (a,b,c)):c.length≤JV.bulk v:=by
 unfold three at h
 split at h
 ·split at h
  ·rename_i x y z h1 h2 h3
   have h:=Option.some.inj h
   injection h with _ h
   injection h with _ h
   subst h
   exact txt_len h3
  ·cases h
 ·cases h
theorem lead_err {v:JV} {l:List CallP} {n:Nat} (h:lead v l=.error n):n≠0:=by
 unfold lead at h
 split at h
 ·injection h with h;omega
 ·split at h
  ·injection h with h;omega
  ·split at h
   ·split at h
    ·injection h with h;omega
    ·split at h
     ·injection h with h;omega
     ·cases h
   ·injection h with h;omega
def ful:Except Nat (List (Tx × JV))→Except Nat JV
 | .error e=>.error e
 | .ok l=>.ok (JV.mapV l)
theorem take_set {α} (l:List α) (i:Nat) (h:i<l.length) (a:α):(l.set i a).take (i+1)=l.take i++[a]:=by
 have h2:i<(l.set i a).length:=by simpa using h
 rw [List.take_succ_eq_append_getElem h2,List.take_set_of_le (Nat.le_refl i)];simp
theorem drop_set {α} (l:List α) (i:Nat) (a:α):(l.set i a).drop (i+1)=l.drop (i+1):=by
 rw [List.drop_set];simp
end Rf
/- The walk of refs.lead. -/

def LeP (Z:Nat) (w:World):Except Nat JV→Ending→World→Prop
 | .error n,e,w'=>e=.returned (.tuple #[.agg #[.int .i64 0,.int .i64 0,.string ⟨#[]⟩,.slice none 0 0,.slice none 0 0],.int .i64 n])∧Fr w w'
 | .ok y,e,w'=>∃ (C:Option Addr) (f:Nat) (C':Option Addr) (f':Nat),e=.returned (.tuple #[.agg #[.int .i64 y.kd,.int .i64 y.nm,.string ⟨y.tx.toArray⟩,.slice C y.ls.length f,.slice C' y.ms.length f'],.int .i64 0])∧InV w' (Ne Z w w') y (vA y C f C' f')∧Fr w w'
theorem Rf.first (l:List CallV) (s:List UInt8):(∀ y (hy:y<l.length),l[y].2≠s) ∨ ∃ i,∃ hi:i<l.length,(∀ y (hy:y<l.length),y<i→l[y].2≠s)∧l[i].2=s:=by
 by_cases h:∃ i:Nat,∃ hi:i<l.length,l[i].2=s
 ·right
  obtain ⟨i,hi⟩:=h
  induction i using Nat.strongRecOn with
  | _ i ih=>
   by_cases hk:∃ k,k<i ∧ ∃ hk:k<l.length,l[k].2=s
   ·obtain ⟨k,h1,h2⟩:=hk
    exact ih k h1 h2
   ·obtain ⟨h1,h2⟩:=hi
    exact ⟨i,h1,fun y hy hyi e=>hk ⟨y,hyi,hy,e⟩,h2⟩
 ·left
  exact fun y hy e=>h ⟨y,hy,e⟩
theorem rlead_no (v:JV) (B:Option Addr) (d:Nat) (B':Option Addr) (d':Nat) (l:List CallV) (A:Option Addr) (c:Nat) (w:World) (Z:Nat) (hZ:Z≤w.heap.size) (h:InV w (Lo Z) v (vA v B d B' d')) (h3:Rf.three v=none):
  Calls Tryz.prog 38 #[.agg #[.int .i64 v.kd,.int .i64 v.nm,.string ⟨v.tx.toArray⟩,.slice B v.ls.length d,.slice B' v.ms.length d'],.slice A l.length c] w (LeP Z w (Rf.lead v l)):=by
 have HTH:Hid (∀ W,Fr w W→Calls Tryz.prog 62 #[.agg #[.int .i64 v.kd,.int .i64 v.nm,.string ⟨v.tx.toArray⟩,.slice B v.ls.length d,.slice B' v.ms.length d']] W fun e w'=>ThP (Rf.three v) e∧Fr W w'):=Lib.hid (fun W hW=>three_is v B d B' d' W Z (Nat.le_trans hZ hW.size) (h.keep hZ hW))
 have HR:Hid (Rf.lead v l=.error 1):=Lib.hid (by unfold Rf.lead;rw [h3])
 have H3:=Lib.hid h3
 clear h h3
 go_enter Tryz.func38,Tryz.ntmps38
 go_upto_region 1 with fail
 have hx0:Blk ((w.alloc (.cells #[.int .i64 v.kd,.int .i64 v.nm,.string ⟨v.tx.toArray⟩,.slice B v.ls.length d,.slice B' v.ms.length d'] 25)).alloc (.cells #[.int .i64 0,.int .i64 0,.string ⟨#[]⟩,.slice none 0 0,.slice none 0 0] 25)) w.heap.size #[.int .i64 v.kd,.int .i64 v.nm,.string ⟨v.tx.toArray⟩,.slice B v.ls.length d,.slice B' v.ms.length d'] 25:=(Blk.made w _ _).keep ((Fr.refl _).alloc _)
 have hy0:Blk ((w.alloc (.cells #[.int .i64 v.kd,.int .i64 v.nm,.string ⟨v.tx.toArray⟩,.slice B v.ls.length d,.slice B' v.ms.length d'] 25)).alloc (.cells #[.int .i64 0,.int .i64 0,.string ⟨#[]⟩,.slice none 0 0,.slice none 0 0] 25)) (w.heap.size+1) #[.int .i64 0,.int .i64 0,.string ⟨#[]⟩,.slice none 0 0,.slice none 0 0] 25:=boxz (Blk.made (w.alloc _) _ _)
 have hf0:Fr w ((w.alloc (.cells #[.int .i64 v.kd,.int .i64 v.nm,.string ⟨v.tx.toArray⟩,.slice B v.ls.length d,.slice B' v.ms.length d'] 25)).alloc (.cells #[.int .i64 0,.int .i64 0,.string ⟨#[]⟩,.slice none 0 0,.slice none 0 0] 25)):=((Fr.refl w).alloc _).alloc _
 have HX2:Hid (w.heap.size≤w.heap.size+1):=Lib.hid (by omega)
 generalize ((w.alloc (.cells #[.int .i64 v.kd,.int .i64 v.nm,.string ⟨v.tx.toArray⟩,.slice B v.ls.length d,.slice B' v.ms.length d'] 25)).alloc (.cells #[.int .i64 0,.int .i64 0,.string ⟨#[]⟩,.slice none 0 0,.slice none 0 0] 25))=W1 at hx0 hy0 hf0 ⊢
 generalize w.heap.size+1=X2 at hy0 HX2 ⊢
 obtain ⟨X1,hX1⟩:∃ X,w.heap.size=X:=⟨_,rfl⟩
 rw [hX1] at hx0 ⊢
 clear hX1
 obtain ⟨⟨x0,x1,x2,x3,x4⟩,_⟩:=box5 hx0
 have HY0:=Lib.hid hy0
 have HF0:=Lib.hid hf0
 clear hx0 hy0 hf0
 go_upto_region 2 with (go_at_call 62;refine (HTH.out _ HF0.out).mono ?_;rw [H3.out];rintro e w2 ⟨⟨s0,s1,s2,rfl⟩,hf⟩;have HF1:=Lib.hid hf;clear hf)
 have hb2:Blk (w2.alloc (.cells #[.string s0,.string s1,.string s2] 103)) X2 #[.int .i64 0,.int .i64 0,.string ⟨#[]⟩,.slice none 0 0,.slice none 0 0] 25:=HY0.out.keep (HF1.out.alloc _)
 have hf2:Fr w (w2.alloc (.cells #[.string s0,.string s1,.string s2] 103)):=(HF0.out.trans HF1.out).alloc _
 generalize (w2.alloc (.cells #[.string s0,.string s1,.string s2] 103))=W2 at hb2 hf2 ⊢
 generalize w2.heap.size=X6
 obtain ⟨⟨z0,z1,z2,z3,z4⟩,zf0,zf1,zf2,zf3,zf4⟩:=box5 hb2
 have HB2:=Lib.hid hb2
 have HF2:=Lib.hid hf2
 clear hb2 hf2 x0 x1 x2 x3 x4
 go_wp2_with fail
 refine bodyPost_ret (results_cs (by rfl) rfl _ X2 (by rfl) (by rfl) _ _ _ _ _ (set5 HB2.out)) rfl ?_
 show LeP Z w (Rf.lead v l) _ _
 rw [HR.out]
 exact ⟨rfl,st5_fr HF2.out HX2.out _ _ _ _ _⟩
theorem rlead_yes (v:JV) (B:Option Addr) (d:Nat) (B':Option Addr) (d':Nat) (l:List CallV) (A:Option Addr) (c:Nat) (w:World) (Z:Nat) (hZ:Z≤w.heap.size) (h:InV w (Lo Z) v (vA v B d B' d')) (hcz:CsZ w Z A l) (hl:l.length≤140737488355328) (hn:∀ q∈l,Rd.nv q.1.2≤1048576) (hM:MxL w) (sa sb sp:List UInt8) (h3:Rf.three v=some (sa,sb,sp)) (hp:sp.length<4294967281):
  Calls Tryz.prog 38 #[.agg #[.int .i64 v.kd,.int .i64 v.nm,.string ⟨v.tx.toArray⟩,.slice B v.ls.length d,.slice B' v.ms.length d'],.slice A l.length c] w (LeP Z w (Rf.lead v l)):=by
 have HTH:Hid (∀ W,Fr w W→Calls Tryz.prog 62 #[.agg #[.int .i64 v.kd,.int .i64 v.nm,.string ⟨v.tx.toArray⟩,.slice B v.ls.length d,.slice B' v.ms.length d']] W fun e w'=>ThP (Rf.three v) e∧Fr W w'):=Lib.hid (fun W hW=>three_is v B d B' d' W Z (Nat.le_trans hZ hW.size) (h.keep hZ hW))
 have H3:=Lib.hid h3
 have HZ:=Lib.hid hZ
 have HCZ:=Lib.hid hcz
 have HL:=Lib.hid hl
 have HN:=Lib.hid hn
 have HMX:=Lib.hid hM
 have HSP:Hid ((⟨sp.toArray⟩:ByteArray).size<4294967281):=Lib.hid (show sp.toArray.size<_ by rw [List.size_toArray];exact hp)
 have hl':(l.length:Int)≤140737488355328:=by omega
 clear h h3 hZ hcz hl hn hM hp
 go_enter Tryz.func38,Tryz.ntmps38
 go_upto_region 1 with fail
 have hx0:Blk ((w.alloc (.cells #[.int .i64 v.kd,.int .i64 v.nm,.string ⟨v.tx.toArray⟩,.slice B v.ls.length d,.slice B' v.ms.length d'] 25)).alloc (.cells #[.int .i64 0,.int .i64 0,.string ⟨#[]⟩,.slice none 0 0,.slice none 0 0] 25)) w.heap.size #[.int .i64 v.kd,.int .i64 v.nm,.string ⟨v.tx.toArray⟩,.slice B v.ls.length d,.slice B' v.ms.length d'] 25:=(Blk.made w _ _).keep ((Fr.refl _).alloc _)
 have hy0:Blk ((w.alloc (.cells #[.int .i64 v.kd,.int .i64 v.nm,.string ⟨v.tx.toArray⟩,.slice B v.ls.length d,.slice B' v.ms.length d'] 25)).alloc (.cells #[.int .i64 0,.int .i64 0,.string ⟨#[]⟩,.slice none 0 0,.slice none 0 0] 25)) (w.heap.size+1) #[.int .i64 0,.int .i64 0,.string ⟨#[]⟩,.slice none 0 0,.slice none 0 0] 25:=boxz (Blk.made (w.alloc _) _ _)
 have hf0:Fr w ((w.alloc (.cells #[.int .i64 v.kd,.int .i64 v.nm,.string ⟨v.tx.toArray⟩,.slice B v.ls.length d,.slice B' v.ms.length d'] 25)).alloc (.cells #[.int .i64 0,.int .i64 0,.string ⟨#[]⟩,.slice none 0 0,.slice none 0 0] 25)):=((Fr.refl w).alloc _).alloc _
 have HX2:Hid (w.heap.size≤w.heap.size+1):=Lib.hid (by omega)
 generalize ((w.alloc (.cells #[.int .i64 v.kd,.int .i64 v.nm,.string ⟨v.tx.toArray⟩,.slice B v.ls.length d,.slice B' v.ms.length d'] 25)).alloc (.cells #[.int .i64 0,.int .i64 0,.string ⟨#[]⟩,.slice none 0 0,.slice none 0 0] 25))=W1 at hx0 hy0 hf0 ⊢
 generalize w.heap.size+1=X2 at hy0 HX2 ⊢
 obtain ⟨X1,hX1⟩:∃ X,w.heap.size=X:=⟨_,rfl⟩
 rw [hX1] at hx0 ⊢
 clear hX1
 obtain ⟨⟨x0,x1,x2,x3,x4⟩,_⟩:=box5 hx0
 have HY0:=Lib.hid hy0
 have HF0:=Lib.hid hf0
 clear hx0 hy0 hf0
 go_upto_region 2 with (go_at_call 62;refine (HTH.out _ HF0.out).mono ?_;rw [H3.out];rintro e w2 ⟨rfl,hf⟩;have HF1:=Lib.hid hf;clear hf)
 have hb2:Blk (w2.alloc (.cells #[.string ⟨sa.toArray⟩,.string ⟨sb.toArray⟩,.string ⟨sp.toArray⟩] 103)) X2 #[.int .i64 0,.int .i64 0,.string ⟨#[]⟩,.slice none 0 0,.slice none 0 0] 25:=HY0.out.keep (HF1.out.alloc _)
 have hb6:Blk (w2.alloc (.cells #[.string ⟨sa.toArray⟩,.string ⟨sb.toArray⟩,.string ⟨sp.toArray⟩] 103)) w2.heap.size #[.string ⟨sa.toArray⟩,.string ⟨sb.toArray⟩,.string ⟨sp.toArray⟩] 103:=Blk.made w2 _ _
 have hf2:Fr w (w2.alloc (.cells #[.string ⟨sa.toArray⟩,.string ⟨sb.toArray⟩,.string ⟨sp.toArray⟩] 103)):=(HF0.out.trans HF1.out).alloc _
 generalize (w2.alloc (.cells #[.string ⟨sa.toArray⟩,.string ⟨sb.toArray⟩,.string ⟨sp.toArray⟩] 103))=W2 at hb2 hb6 hf2 ⊢
 generalize w2.heap.size=X6 at hb6 ⊢
 have HB2:=Lib.hid hb2
 have HB6:=Lib.hid hb6
 have HF2:=Lib.hid hf2
 have HZ2:Hid (Z≤W2.heap.size):=Lib.hid (Nat.le_trans HZ.out hf2.size)
 clear hb2 hb6 hf2 x0 x1 x2 x3 x4 HF1
 have HIX:Hid (∀ W,Fr W2 W→Calls Tryz.prog 63 #[.slice A l.length c,(Value.func (.func 64) #[] #[.pointer (some ⟨X6,0,none⟩)])] W fun e w'=>(((∀ y (hy:y<l.length),l[y].2≠sa)∧e=.returned (.int .i64 (-1))) ∨ ∃ i:Nat,∃ hi:i<l.length,(∀ y (hy:y<l.length),y<i→l[y].2≠sa)∧l[i].2=sa∧e=.returned (.int .i64 i))∧Fr W w'):=Lib.hid (fun W hW=>idxlead_is l A c X6 sa W Z (Nat.le_trans HZ2.out hW.size) ((HCZ.out.keep HZ.out HF2.out).keep HZ2.out hW) HL.out (Nat.lt_of_lt_of_le HB6.out.lt hW.size) ((HB6.out.keep hW).cell 0))
 rcases Rf.first l sa with hno | hex
 ·have HNI:Hid (∀ y (hy:y<l.length),l[y].2≠sa):=Lib.hid hno
  have HR:Hid (Rf.lead v l=.error 240):=Lib.hid (by unfold Rf.lead;rw [H3.out];show (match Rf.look l sa with | none=>_ | some d=>_)=_;rw [Rf.look_none hno])
  clear hno
  have HIY:Hid (∀ W,Fr W2 W→Calls Tryz.prog 63 #[.slice A l.length c,(Value.func (.func 64) #[] #[.pointer (some ⟨X6,0,none⟩)])] W fun e w'=>e=.returned (.int .i64 (-1))∧Fr W w'):=Lib.hid (fun W hW=>(HIX.out W hW).mono (by rintro e w' ⟨h | ⟨j,hj,h1,h2,h3⟩,hf⟩;exact ⟨h.2,hf⟩;exact absurd h2 (HNI.out j hj)))
  clear HIX
  go_upto_region 5 with (go_at_call 63;refine (HIY.out _ (Fr.refl _)).mono ?_;rintro e w3 ⟨rfl,hf⟩;have HF3:=Lib.hid hf;clear hf)
  have hb3:=HB2.out.keep HF3.out
  obtain ⟨⟨z0,z1,z2,z3,z4⟩,zf0,zf1,zf2,zf3,zf4⟩:=box5 hb3
  have HB3:=Lib.hid hb3
  clear hb3
  go_quiet (fail)
  go_wp2_with fail
  refine bodyPost_ret (results_cs (by rfl) rfl _ X2 (by rfl) (by rfl) _ _ _ _ _ (set5 (Lib.hid (HB3.out.keep ((Fr.refl w3).drewN nq))).out)) rfl ?_
  show LeP Z w (Rf.lead v l) _ _
  rw [HR.out]
  exact ⟨rfl,st5_fr (Lib.hid ((HF2.out.trans HF3.out).drewN nq)).out HX2.out _ _ _ _ _⟩
 ·obtain ⟨i,hi,hmin,his⟩:=hex
  have hlt':(i:Int)<(l.length:Int):=by omega
  have hge':decide ((i:Int)<0)=false:=by rw [decide_eq_false_iff_not];omega
  have h0i:(0:Int)≤(i:Int):=by omega
  have hlk:Rf.look l sa=some l[i]:=Rf.look_at hi hmin his
  have HU:Hid (∀ j (hj:j<l.length),(∀ y (hy:y<l.length),y<j→l[y].2≠sa)→l[j].2=sa→j=i):=Lib.hid (fun j hj h1 h2=>by
   rcases Nat.lt_trichotomy j i with h | h | h
   ·exact absurd h2 (hmin j hj h)
   ·exact h
   ·exact absurd his (h1 i hi h))
  have HNN:Hid (¬ ∀ y (hy:y<l.length),l[y].2≠sa):=Lib.hid (fun h=>h i hi his)
  obtain ⟨b,o,P,p,P',p',rfl,hb,c0,hvc,c6,hux⟩:=(HCZ.out.keep HZ.out HF2.out) i hi
  obtain ⟨nm,hnm⟩:∃ q,l[i].1.1=q:=⟨_,rfl⟩
  obtain ⟨x,hx⟩:∃ q,l[i].1.2=q:=⟨_,rfl⟩
  rw [hx] at hvc hux
  rw [hnm] at c0
  have hnx:Rd.nv x≤1048576:=by rw [← hx];exact HN.out _ (List.getElem_mem hi)
  have hll:Rf.lead v l=if nm=sb then (match Pt.parts sp with
    | none=>.error 240
    | some ps=>match Pt.find true ps x with
     | none=>.error 240
     | some x=>.ok x) else .error 240:=by
   unfold Rf.lead
   rw [H3.out]
   show (match Rf.look l sa with | none=>_ | some d=>_)=_
   rw [hlk]
   show (if l[i].1.1=sb then _ else _)=_
   rw [hnm,hx];rfl
  have HB0:Hid (b<W2.heap.size):=Lib.hid (Nat.lt_of_lt_of_le hb HZ2.out)
  have HC0:=Lib.hid c0
  have HVC:=Lib.hid hvc
  have HUX:=Lib.hid hux
  clear c6 hlk hb c0 hvc hux hnm hx hmin his hi
  have HIY:Hid (∀ W,Fr W2 W→Calls Tryz.prog 63 #[.slice (some ⟨b,o,none⟩) l.length c,(Value.func (.func 64) #[] #[.pointer (some ⟨X6,0,none⟩)])] W fun e w'=>e=.returned (.int .i64 i)∧Fr W w'):=Lib.hid (fun W hW=>(HIX.out W hW).mono (by rintro e w' ⟨h | ⟨j,hj,h1,h2,h3⟩,hf⟩;exact absurd h.1 HNN.out;exact ⟨by rw [h3,HU.out j hj h1 h2],hf⟩))
  clear HIX
  go_upto_region 5 with (go_at_call 63;refine (HIY.out _ (Fr.refl _)).mono ?_;rintro e w3 ⟨rfl,hf⟩;have HF3:=Lib.hid hf;clear hf)
  have hc0:=(HF3.out.cell HB0.out).trans HC0.out
  have hb6:=HB6.out.keep HF3.out
  obtain ⟨⟨t0,t1,t2⟩,_⟩:=box3 hb6
  clear hb6
  by_cases hq:nm=sb
  ·have q1:((⟨nm.toArray⟩:ByteArray).toList == (⟨sb.toArray⟩:ByteArray).toList)=true:=by rw [bl_beq'];simpa using hq
   have q2:(nm == sb)=true:=by simpa using hq
   have q3:(nm != sb)=false:=by simpa using hq
   have q4:((⟨nm.toArray⟩:ByteArray).toList != (⟨sb.toArray⟩:ByteArray).toList)=false:=by rw [bne,bl_beq'];simpa using hq
   rw [if_pos hq] at hll
   clear hq
   go_quiet (fail)
   go_upto_region 7 with fail
   clear hc0 t0 t1 t2
   obtain ⟨W4,hW4⟩:∃ W,W=w3.drewN nq:=⟨_,rfl⟩
   rw [← hW4]
   have HF4:Hid (Fr W2 W4):=Lib.hid (by rw [hW4];exact HF3.out.drewN nq)
   clear hW4 HF3
   have HZ4:Hid (Z≤W4.heap.size):=Lib.hid (Nat.le_trans HZ2.out HF4.out.size)
   have HSW:Hid (∀ W,Fr W4 W→W.cell? ⟨b,o+i*7+1,none⟩=some (.int .i64 x.kd)∧W.cell? ⟨b,o+i*7+1+1,none⟩=some (.int .i64 x.nm)∧W.cell? ⟨b,o+i*7+1+2,none⟩=some (.string ⟨x.tx.toArray⟩)∧W.cell? ⟨b,o+i*7+1+3,none⟩=some (.slice P x.ls.length p)∧W.cell? ⟨b,o+i*7+1+4,none⟩=some (.slice P' x.ms.length p')∧W.cell? ⟨X6,2,none⟩=some (.string ⟨sp.toArray⟩)):=Lib.hid (fun W hW=>by
    have a:=(HB6.out.keep (HF4.out.trans hW)).cell 2
    have k:∀ o,W.cell? ⟨b,o,none⟩=W2.cell? ⟨b,o,none⟩:=fun o=>(HF4.out.trans hW).cell HB0.out
    exact ⟨(k _).trans HVC.out.1,(k _).trans HVC.out.2.1,(k _).trans HVC.out.2.2.1,(k _).trans HVC.out.2.2.2.1,(k _).trans HVC.out.2.2.2.2,a⟩)
   obtain ⟨r,ec,hrl,hre⟩:∃ (r:JV) (ec:Int),((ec=0∧Rf.lead v l=.ok r)∨(ec≠0∧r=JV.zeroV∧Rf.lead v l=.error 240)) ∧ ∀ (W:World) e w',LdP Z W (Pt.parts sp) true x e w' → ∃ (C:Option Addr) (f:Nat) (C':Option Addr) (f':Nat),e=.returned (.tuple #[.agg #[.int .i64 r.kd,.int .i64 r.nm,.string ⟨r.tx.toArray⟩,.slice C r.ls.length f,.slice C' r.ms.length f'],.int .i64 ec])∧InV w' (Ne Z W w') r (vA r C f C' f')∧Fr W w':=by
    cases hps:Pt.parts sp with
    | none=>
     rw [hps] at hll
     exact ⟨JV.zeroV,80,.inr ⟨by decide,rfl,hll⟩,fun W e w' h=>⟨none,0,none,0,h.1,zeroV_in _ _,h.2⟩⟩
    | some ps=>
     rw [hps] at hll
     cases hfd:Pt.find true ps x with
     | none=>
      simp only [hfd] at hll
      refine ⟨JV.zeroV,81,.inr ⟨by decide,rfl,hll⟩,fun W e w' h=>?_⟩
      have h:FdP Z W (Pt.find true ps x) e w':=h
      rw [hfd] at h
      exact ⟨none,0,none,0,h.1,zeroV_in _ _,h.2⟩
     | some y=>
      simp only [hfd] at hll
      refine ⟨y,0,.inl ⟨rfl,hll⟩,fun W e w' h=>?_⟩
      have h:FdP Z W (Pt.find true ps x) e w':=h
      rw [hfd] at h
      exact h
   have hdl:(⟨sp.toArray⟩:ByteArray).data.toList=sp:=by simp
   have HEA:Hid (∀ W,Fr W4 W→Calls Tryz.prog 19 #[.agg #[.int .i64 x.kd,.int .i64 x.nm,.string ⟨x.tx.toArray⟩,.slice P x.ls.length p,.slice P' x.ms.length p'],.string ⟨sp.toArray⟩] W fun e w'=>∃ (C:Option Addr) (f:Nat) (C':Option Addr) (f':Nat),e=.returned (.tuple #[.agg #[.int .i64 r.kd,.int .i64 r.nm,.string ⟨r.tx.toArray⟩,.slice C r.ls.length f,.slice C' r.ms.length f'],.int .i64 ec])∧InV w' (Ne Z W w') r (vA r C f C' f')∧Fr W w'):=Lib.hid (fun W hW=>by
    have h:=peach_is x P p P' p' ⟨sp.toArray⟩ W Z (Nat.le_trans HZ4.out hW.size) ((HUX.out.keep HZ2.out (HF4.out.trans hW))) hnx (HSP.out) (HMX.out.keep ((HF2.out.trans HF4.out).trans hW))
    rw [hdl] at h
    exact h.mono (fun e w' k=>hre W e w' k))
   have HRL:=Lib.hid hrl
   clear hll hrl hre hdl hnx
   go_cut [9,10] from 35 to 46 (fun q1 q2 wx=>∃ (X7:Nat) (C:Option Addr) (f:Nat) (C':Option Addr) (f':Nat),q1=.pointer (some ⟨X7,0,none⟩)∧q2=.int .i64 ec∧Hid (W4.heap.size≤X7)∧Hid (Blk wx X7 #[.int .i64 r.kd,.int .i64 r.nm,.string ⟨r.tx.toArray⟩,.slice C r.ls.length f,.slice C' r.ms.length f'] 25)∧Hid (InV wx (Ne Z W4 wx) r (vA r C f C' f'))∧Hid (Fr W4 wx))
   case first=>
    refine wp_region_held_drew (S:=(fun W=>W.cell? ⟨b,o+i*7+1,none⟩=some (.int .i64 x.kd)∧W.cell? ⟨b,o+i*7+1+1,none⟩=some (.int .i64 x.nm)∧W.cell? ⟨b,o+i*7+1+2,none⟩=some (.string ⟨x.tx.toArray⟩)∧W.cell? ⟨b,o+i*7+1+3,none⟩=some (.slice P x.ls.length p)∧W.cell? ⟨b,o+i*7+1+4,none⟩=some (.slice P' x.ms.length p')∧W.cell? ⟨X6,2,none⟩=some (.string ⟨sp.toArray⟩))) (by kernel_rfl) ?_ (fun hHeld=>?_)
    ·exact HSW.out _ (Fr.refl _).drew
    refine tk (i:=0) (v:=?_) rfl ⟨by rfl,?_⟩ hHeld ?_
    rotate_left
    ·(intro w' hSw;(try dsimp only at hSw);go_simp;try with_reducible rfl)
    try simp only [Act.put,fl]
    refine tk (i:=1) (v:=?_) rfl ⟨by rfl,?_⟩ hHeld ?_
    rotate_left
    ·(intro w' hSw;(try dsimp only at hSw);go_simp;try with_reducible rfl)
    try simp only [Act.put,fl]
    refine tk (i:=2) (v:=?_) rfl ⟨by rfl,?_⟩ hHeld ?_
    rotate_left
    ·(intro w' hSw;(try dsimp only at hSw);go_simp;try with_reducible rfl)
    try simp only [Act.put,fl]
    refine tk (i:=3) (v:=?_) rfl ⟨by rfl,?_⟩ hHeld ?_
    rotate_left
    ·(intro w' hSw;(try dsimp only at hSw);go_simp;try with_reducible rfl)
    try simp only [Act.put,fl]
    refine tk (i:=4) (v:=?_) rfl ⟨by rfl,?_⟩ hHeld ?_
    rotate_left
    ·(intro w' hSw;(try dsimp only at hSw);go_simp;try with_reducible rfl)
    try simp only [Act.put,fl]
    refine tk (i:=5) (v:=?_) rfl ⟨by rfl,?_⟩ hHeld ?_
    rotate_left
    ·(intro w' hSw;(try dsimp only at hSw);go_simp;try with_reducible rfl)
    try simp only [Act.put,fl]
    refine tk (i:=6) (v:=?_) rfl ⟨by rfl,?_⟩ hHeld ?_
    rotate_left
    ·(intro w' hSw;(try dsimp only at hSw);go_simp;try with_reducible rfl)
    try simp only [Act.put,fl]
    refine wpAnyH_ready (rs:=[7,11]) (by kernel_rfl) (by simp) ?_
    refine AllReadyH.cons rfl (fun K hK=>?_) (AllReadyH.cons rfl (fun K hK=>?_) AllReadyH.nil)
    ·go_simp
     (go_at_call 19;refine (HEA.out _ (Fr.refl W4).drew).mono ?_;rintro e w1 ⟨C,f,C',f',rfl,hi,hf⟩;have HI:=Lib.hid hi;clear hi;have HF1:Hid (Fr W4 w1):=Lib.hid ((Fr.refl W4).drew.trans hf);clear hf)
     refine hK.out _ _ (HSW.out _ HF1.out) (fun hH2=>?_)
     clear hK K
     try simp only [Act.put,fl]
     refine tk (i:=8) (v:=?_) rfl ⟨by rfl,?_⟩ hH2 ?_
     rotate_left
     ·(intro w' hSw;(try dsimp only at hSw);go_simp;try with_reducible rfl)
     try simp only [Act.put,fl]
     refine tk (i:=9) (v:=?_) rfl ⟨by rfl,?_⟩ hH2 ?_
     rotate_left
     ·(intro w' hSw;(try dsimp only at hSw);go_simp;try with_reducible rfl)
     try simp only [Act.put,fl]
     refine tk (i:=10) (v:=?_) rfl ⟨by rfl,?_⟩ hH2 ?_
     rotate_left
     ·(intro w' hSw;(try dsimp only at hSw);go_simp;try with_reducible rfl)
     try simp only [Act.put,fl]
     refine wpAnyH_ready (rs:=[11]) (by kernel_rfl) (by simp) ?_
     refine AllReadyH.cons rfl (fun K hK=>?_) AllReadyH.nil
     go_simp
     refine hK.out _ _ (HSW.out _ (HF1.out.alloc _)) (fun hH3=>?_)
     clear hK K
     try simp only [Act.put,fl]
     have hb7:Blk (w1.alloc (.cells #[.int .i64 0,.int .i64 0,.string ⟨#[]⟩,.slice none 0 0,.slice none 0 0] 25)) w1.heap.size #[.int .i64 0,.int .i64 0,.string ⟨#[]⟩,.slice none 0 0,.slice none 0 0] 25:=Blk.made w1 _ _
     have hf7:Fr W4 (w1.alloc (.cells #[.int .i64 0,.int .i64 0,.string ⟨#[]⟩,.slice none 0 0,.slice none 0 0] 25)):=HF1.out.alloc _
     have HX7:Hid (W4.heap.size≤w1.heap.size):=Lib.hid HF1.out.size
     have hi7:InV (w1.alloc (.cells #[.int .i64 0,.int .i64 0,.string ⟨#[]⟩,.slice none 0 0,.slice none 0 0] 25)) (fun b=>b<Z∨(W4.heap.size≤b∧b≠w1.heap.size∧b<(w1.alloc (.cells #[.int .i64 0,.int .i64 0,.string ⟨#[]⟩,.slice none 0 0,.slice none 0 0] 25)).heap.size)) r (vA r C f C' f'):=HI.out.map (fun b hb=>Or.imp id (fun h=>⟨h.1,Nat.ne_of_lt h.2,Nat.lt_of_lt_of_le h.2 ((Fr.refl w1).alloc _).size⟩) hb) (fun b o hb=>((Fr.refl w1).alloc _).cell (by rcases hb with h | h;exact Nat.lt_of_lt_of_le h (Nat.le_trans HZ4.out HX7.out);exact h.2))
     generalize (w1.alloc (.cells #[.int .i64 0,.int .i64 0,.string ⟨#[]⟩,.slice none 0 0,.slice none 0 0] 25))=W7 at hb7 hf7 hi7 ⊢
     generalize w1.heap.size=X7 at hb7 hi7 HX7 ⊢
     have HB7:=Lib.hid hb7
     have HF7:=Lib.hid hf7
     have HI7:=Lib.hid hi7
     clear hb7 hf7 hi7
     have HLT:Hid (∀ b,(b<Z∨(W4.heap.size≤b∧b≠X7∧b<W7.heap.size))→b<W7.heap.size):=Lib.hid (fun b h=>by rcases h with h | h;exact Nat.lt_of_lt_of_le h (Nat.le_trans HZ4.out HF7.out.size);exact h.2.2)
     have HNE:Hid (¬ (X7<Z∨(W4.heap.size≤X7∧X7≠X7∧X7<W7.heap.size))):=Lib.hid (by rintro (h | h);exact absurd h (Nat.not_lt.2 (Nat.le_trans HZ4.out HX7.out));exact h.2.1 rfl)
     obtain ⟨⟨z0,z1,z2,z3,z4⟩,zf0,zf1,zf2,zf3,zf4⟩:=box5 HB7.out
     refine wpAnyH_ready (rs:=[12]) (by kernel_rfl) (by simp) ?_
     refine AllReadyH.cons rfl (fun K hK=>?_) AllReadyH.nil
     go_simp
     refine hK.out _ _ (HSW.out _ (st5_fr HF7.out HX7.out _ _ _ _ _)) (fun hH5=>?_)
     clear hK K
     try simp only [Act.put,fl]
     refine tk (i:=13) (v:=?_) rfl ⟨by rfl,?_⟩ hH5 ?_
     rotate_left
     ·(intro w' hSw;(try dsimp only at hSw);go_simp;try with_reducible rfl)
     try simp only [Act.put,fl]
     refine wpAnyH_done (by kernel_rfl) ?_ _
     have hb9:Blk (((((W7.setCell ⟨X7,0,none⟩ (.int .i64 r.kd)).setCell ⟨X7,1,none⟩ (.int .i64 r.nm)).setCell ⟨X7,2,none⟩ (.string ⟨r.tx.toArray⟩)).setCell ⟨X7,3,none⟩ (.slice C r.ls.length f)).setCell ⟨X7,4,none⟩ (.slice C' r.ms.length f')) X7 #[.int .i64 r.kd,.int .i64 r.nm,.string ⟨r.tx.toArray⟩,.slice C r.ls.length f,.slice C' r.ms.length f'] 25:=set5 HB7.out
     have hf9:Fr W4 (((((W7.setCell ⟨X7,0,none⟩ (.int .i64 r.kd)).setCell ⟨X7,1,none⟩ (.int .i64 r.nm)).setCell ⟨X7,2,none⟩ (.string ⟨r.tx.toArray⟩)).setCell ⟨X7,3,none⟩ (.slice C r.ls.length f)).setCell ⟨X7,4,none⟩ (.slice C' r.ms.length f')):=st5_fr HF7.out HX7.out _ _ _ _ _
     have hi9:InV (((((W7.setCell ⟨X7,0,none⟩ (.int .i64 r.kd)).setCell ⟨X7,1,none⟩ (.int .i64 r.nm)).setCell ⟨X7,2,none⟩ (.string ⟨r.tx.toArray⟩)).setCell ⟨X7,3,none⟩ (.slice C r.ls.length f)).setCell ⟨X7,4,none⟩ (.slice C' r.ms.length f')) (Ne Z W4 (((((W7.setCell ⟨X7,0,none⟩ (.int .i64 r.kd)).setCell ⟨X7,1,none⟩ (.int .i64 r.nm)).setCell ⟨X7,2,none⟩ (.string ⟨r.tx.toArray⟩)).setCell ⟨X7,3,none⟩ (.slice C r.ls.length f)).setCell ⟨X7,4,none⟩ (.slice C' r.ms.length f'))) r (vA r C f C' f'):=HI7.out.map (fun b hb=>Or.imp id (fun h=>⟨h.1,Nat.lt_of_lt_of_le h.2.2 (by simp [World.setCell])⟩) hb) (fun b o hb=>(st5_frx W7 X7 _ _ _ _ _).cell (HLT.out b hb) (fun e=>HNE.out (e ▸ hb)))
     clear z0 z1 z2 z3 z4 zf0 zf1 zf2 zf3 zf4
     generalize (((((W7.setCell ⟨X7,0,none⟩ (.int .i64 r.kd)).setCell ⟨X7,1,none⟩ (.int .i64 r.nm)).setCell ⟨X7,2,none⟩ (.string ⟨r.tx.toArray⟩)).setCell ⟨X7,3,none⟩ (.slice C r.ls.length f)).setCell ⟨X7,4,none⟩ (.slice C' r.ms.length f'))=W9 at hb9 hf9 hi9 ⊢
     have HB9:=Lib.hid hb9
     have HF9:=Lib.hid hf9
     have HI9:=Lib.hid hi9
     clear hb9 hf9 hi9
     repeat (first | go_skip | go_step)
     go_meet
     exact ⟨X7,C,f,C',f',rfl,rfl,HX7,HB9,HI9,HF9⟩
    ·go_simp
     refine hK.out _ _ (HSW.out _ ((Fr.refl W4).drew.alloc _)) (fun hH2=>?_)
     clear hK K
     try simp only [Act.put,fl]
     refine wpAnyH_ready (rs:=[7]) (by kernel_rfl) (by simp) ?_
     refine AllReadyH.cons rfl (fun K hK=>?_) AllReadyH.nil
     go_simp
     (go_at_call 19;refine (HEA.out _ ((Fr.refl W4).drew.alloc _)).mono ?_;rintro e w1 ⟨C,f,C',f',rfl,hi,hf⟩;have hs:(W4.drew.alloc (.cells #[.int .i64 0,.int .i64 0,.string ⟨#[]⟩,.slice none 0 0,.slice none 0 0] 25)).heap.size=W4.heap.size+1:=Array.size_push _;have HF7:Hid (Fr W4 w1):=Lib.hid (((Fr.refl W4).drew.alloc _).trans hf);have HI7:Hid (InV w1 (fun b=>b<Z∨(W4.heap.size≤b∧b≠W4.heap.size∧b<w1.heap.size)) r (vA r C f C' f')):=Lib.hid (hi.more (fun b hb=>Or.imp id (fun h=>by rw [hs] at h;exact ⟨by omega,by omega,h.2⟩) hb));have HB7:Hid (Blk w1 W4.heap.size #[.int .i64 0,.int .i64 0,.string ⟨#[]⟩,.slice none 0 0,.slice none 0 0] 25):=Lib.hid ((Blk.made W4.drew _ _).keep hf);have HX7:Hid (W4.heap.size≤W4.heap.size):=Lib.hid (Nat.le_refl _);clear hf hi hs)
     refine hK.out _ _ (HSW.out _ HF7.out) (fun hH3=>?_)
     clear hK K
     try simp only [Act.put,fl]
     refine tk (i:=8) (v:=?_) rfl ⟨by rfl,?_⟩ hH3 ?_
     rotate_left
     ·(intro w' hSw;(try dsimp only at hSw);go_simp;try with_reducible rfl)
     try simp only [Act.put,fl]
     refine tk (i:=9) (v:=?_) rfl ⟨by rfl,?_⟩ hH3 ?_
     rotate_left
     ·(intro w' hSw;(try dsimp only at hSw);go_simp;try with_reducible rfl)
     try simp only [Act.put,fl]
     refine tk (i:=10) (v:=?_) rfl ⟨by rfl,?_⟩ hH3 ?_
     rotate_left
     ·(intro w' hSw;(try dsimp only at hSw);go_simp;try with_reducible rfl)
     try simp only [Act.put,fl]
     have HLT:Hid (∀ b,(b<Z∨(W4.heap.size≤b∧b≠W4.heap.size∧b<w1.heap.size))→b<w1.heap.size):=Lib.hid (fun b h=>by rcases h with h | h;exact Nat.lt_of_lt_of_le h (Nat.le_trans HZ4.out HF7.out.size);exact h.2.2)
     have HNE:Hid (¬ (W4.heap.size<Z∨(W4.heap.size≤W4.heap.size∧W4.heap.size≠W4.heap.size∧W4.heap.size<w1.heap.size))):=Lib.hid (by rintro (h | h);exact absurd h (Nat.not_lt.2 (Nat.le_trans HZ4.out HX7.out));exact h.2.1 rfl)
     obtain ⟨⟨z0,z1,z2,z3,z4⟩,zf0,zf1,zf2,zf3,zf4⟩:=box5 HB7.out
     refine wpAnyH_ready (rs:=[12]) (by kernel_rfl) (by simp) ?_
     refine AllReadyH.cons rfl (fun K hK=>?_) AllReadyH.nil
     go_simp
     refine hK.out _ _ (HSW.out _ (st5_fr HF7.out HX7.out _ _ _ _ _)) (fun hH5=>?_)
     clear hK K
     try simp only [Act.put,fl]
     refine tk (i:=13) (v:=?_) rfl ⟨by rfl,?_⟩ hH5 ?_
     rotate_left
     ·(intro w' hSw;(try dsimp only at hSw);go_simp;try with_reducible rfl)
     try simp only [Act.put,fl]
     refine wpAnyH_done (by kernel_rfl) ?_ _
     have hb9:Blk (((((w1.setCell ⟨W4.heap.size,0,none⟩ (.int .i64 r.kd)).setCell ⟨W4.heap.size,1,none⟩ (.int .i64 r.nm)).setCell ⟨W4.heap.size,2,none⟩ (.string ⟨r.tx.toArray⟩)).setCell ⟨W4.heap.size,3,none⟩ (.slice C r.ls.length f)).setCell ⟨W4.heap.size,4,none⟩ (.slice C' r.ms.length f')) W4.heap.size #[.int .i64 r.kd,.int .i64 r.nm,.string ⟨r.tx.toArray⟩,.slice C r.ls.length f,.slice C' r.ms.length f'] 25:=set5 HB7.out
     have hf9:Fr W4 (((((w1.setCell ⟨W4.heap.size,0,none⟩ (.int .i64 r.kd)).setCell ⟨W4.heap.size,1,none⟩ (.int .i64 r.nm)).setCell ⟨W4.heap.size,2,none⟩ (.string ⟨r.tx.toArray⟩)).setCell ⟨W4.heap.size,3,none⟩ (.slice C r.ls.length f)).setCell ⟨W4.heap.size,4,none⟩ (.slice C' r.ms.length f')):=st5_fr HF7.out HX7.out _ _ _ _ _
     have hi9:InV (((((w1.setCell ⟨W4.heap.size,0,none⟩ (.int .i64 r.kd)).setCell ⟨W4.heap.size,1,none⟩ (.int .i64 r.nm)).setCell ⟨W4.heap.size,2,none⟩ (.string ⟨r.tx.toArray⟩)).setCell ⟨W4.heap.size,3,none⟩ (.slice C r.ls.length f)).setCell ⟨W4.heap.size,4,none⟩ (.slice C' r.ms.length f')) (Ne Z W4 (((((w1.setCell ⟨W4.heap.size,0,none⟩ (.int .i64 r.kd)).setCell ⟨W4.heap.size,1,none⟩ (.int .i64 r.nm)).setCell ⟨W4.heap.size,2,none⟩ (.string ⟨r.tx.toArray⟩)).setCell ⟨W4.heap.size,3,none⟩ (.slice C r.ls.length f)).setCell ⟨W4.heap.size,4,none⟩ (.slice C' r.ms.length f'))) r (vA r C f C' f'):=HI7.out.map (fun b hb=>Or.imp id (fun h=>⟨h.1,Nat.lt_of_lt_of_le h.2.2 (by simp [World.setCell])⟩) hb) (fun b o hb=>(st5_frx w1 W4.heap.size _ _ _ _ _).cell (HLT.out b hb) (fun e=>HNE.out (e ▸ hb)))
     clear z0 z1 z2 z3 z4 zf0 zf1 zf2 zf3 zf4
     generalize (((((w1.setCell ⟨W4.heap.size,0,none⟩ (.int .i64 r.kd)).setCell ⟨W4.heap.size,1,none⟩ (.int .i64 r.nm)).setCell ⟨W4.heap.size,2,none⟩ (.string ⟨r.tx.toArray⟩)).setCell ⟨W4.heap.size,3,none⟩ (.slice C r.ls.length f)).setCell ⟨W4.heap.size,4,none⟩ (.slice C' r.ms.length f'))=W9 at hb9 hf9 hi9 ⊢
     have HB9:=Lib.hid hb9
     have HF9:=Lib.hid hf9
     have HI9:=Lib.hid hi9
     clear hb9 hf9 hi9
     repeat (first | go_skip | go_step)
     go_meet
     exact ⟨W4.heap.size,C,f,C',f',rfl,rfl,HX7,HB9,HI9,HF9⟩
   obtain ⟨X7,C,f,C',f',rfl,rfl,hX7,hB9,hI9,hF9⟩:=hcut
   obtain ⟨W9,hW9⟩:∃ W,W=wc:=⟨wc,rfl⟩
   subst hW9
   have hb2:=HB2.out.keep (HF4.out.trans hF9.out)
   obtain ⟨⟨z0,z1,z2,z3,z4⟩,zf0,zf1,zf2,zf3,zf4⟩:=box5 hb2
   have HY2:=Lib.hid hb2
   clear hb2
   have HFW:Hid (Fr w W9):=Lib.hid ((HF2.out.trans HF4.out).trans hF9.out)
   by_cases he:ec=0
   ·have q5:(ec != 0)=false:=by rw [he];rfl
    subst he
    obtain ⟨⟨y0,y1,y2,y3,y4⟩,_⟩:=box5 hB9.out
    go_wp2_with fail
    refine bodyPost_ret (results_cs (by rfl) rfl _ X2 (by rfl) (by rfl) _ _ _ _ _ (set5 HY2.out)) rfl ?_
    have hr:Rf.lead v l=.ok r:=by rcases HRL.out with h | h;exact h.2;exact absurd rfl h.1
    show LeP Z w (Rf.lead v l) _ _
    rw [hr]
    refine ⟨C,f,C',f',rfl,?_,st5_fr HFW.out HX2.out _ _ _ _ _⟩
    refine hI9.out.map (fun b hb=>?_) (fun b o hb=>(st5_frx W9 X2 _ _ _ _ _).cell ?_ ?_)
    ·rcases hb with h | h
     ·exact .inl h
     ·exact .inr ⟨Nat.le_trans ((HF2.out.trans HF4.out).size) h.1,Nat.lt_of_lt_of_le h.2 (by simp [World.setCell])⟩
    ·rcases hb with h | h
     ·exact Nat.lt_of_lt_of_le h (Nat.le_trans HZ4.out hF9.out.size)
     ·exact h.2
    ·intro e
     subst e
     rcases hb with h | h
     ·exact absurd h (Nat.not_lt.2 (Nat.le_trans HZ.out HX2.out))
     ·exact absurd (Nat.lt_of_lt_of_le HB2.out.lt HF4.out.size) (Nat.not_lt.2 h.1)
   ·have q5:(ec != 0)=true:=by rw [bne_iff_ne];exact he
    have HR:Hid (Rf.lead v l=.error 240):=Lib.hid (by rcases HRL.out with h | h;exact absurd h.1 he;exact h.2.2)
    clear he
    go_wp2_with fail
    refine bodyPost_ret (results_cs (by rfl) rfl _ X2 (by rfl) (by rfl) _ _ _ _ _ (set5 HY2.out)) rfl ?_
    show LeP Z w (Rf.lead v l) _ _
    rw [HR.out]
    exact ⟨rfl,st5_fr HFW.out HX2.out _ _ _ _ _⟩
  ·have HR:Hid (Rf.lead v l=.error 240):=Lib.hid (by rw [hll,if_neg hq])
   clear hll hnx
   have q1:((⟨nm.toArray⟩:ByteArray).toList == (⟨sb.toArray⟩:ByteArray).toList)=false:=by rw [bl_beq'];simpa using hq
   have q2:(nm == sb)=false:=by simpa using hq
   have q3:(nm != sb)=true:=by simpa using hq
   have q4:((⟨nm.toArray⟩:ByteArray).toList != (⟨sb.toArray⟩:ByteArray).toList)=true:=by rw [bne,bl_beq'];simpa using hq
   clear hq
   have hb3:=HB2.out.keep HF3.out
   obtain ⟨⟨z0,z1,z2,z3,z4⟩,zf0,zf1,zf2,zf3,zf4⟩:=box5 hb3
   have HB3:=Lib.hid hb3
   clear hb3
   go_quiet (fail)
   go_wp2_with fail
   refine bodyPost_ret (results_cs (by rfl) rfl _ X2 (by rfl) (by rfl) _ _ _ _ _ (set5 (Lib.hid (HB3.out.keep ((Fr.refl w3).drewN nq))).out)) rfl ?_
   show LeP Z w (Rf.lead v l) _ _
   rw [HR.out]
   exact ⟨rfl,st5_fr (Lib.hid ((HF2.out.trans HF3.out).drewN nq)).out HX2.out _ _ _ _ _⟩
theorem rlead_is (v:JV) (B:Option Addr) (d:Nat) (B':Option Addr) (d':Nat) (l:List CallV) (A:Option Addr) (c:Nat) (w:World) (Z:Nat) (hZ:Z≤w.heap.size) (h:InV w (Lo Z) v (vA v B d B' d')) (hcz:CsZ w Z A l) (hl:l.length≤140737488355328) (hn:∀ q∈l,Rd.nv q.1.2≤1048576) (hM:MxL w) (hp:∀ sa sb sp,Rf.three v=some (sa,sb,sp)→sp.length<4294967281):
  Calls Tryz.prog 38 #[.agg #[.int .i64 v.kd,.int .i64 v.nm,.string ⟨v.tx.toArray⟩,.slice B v.ls.length d,.slice B' v.ms.length d'],.slice A l.length c] w (LeP Z w (Rf.lead v l)):=by
 cases h3:Rf.three v with
 | none=>exact rlead_no v B d B' d' l A c w Z hZ h h3
 | some t=>exact rlead_yes v B d B' d' l A c w Z hZ h hcz hl hn hM t.1 t.2.1 t.2.2 h3 (hp _ _ _ h3)
end Go.Proofs.YtdhakbghdcfncaaGreatDoor
