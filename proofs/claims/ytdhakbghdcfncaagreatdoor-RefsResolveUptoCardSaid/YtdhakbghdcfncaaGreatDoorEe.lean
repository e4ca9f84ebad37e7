/- The walks of emit.Check, Text; of the laws' example and awake. -/
import Derived.Test.YtdhakbghdcfncaaGreatDoorEd
import Derived.Test.YtdhakbghdcfncaaGreatDoorEmitD
namespace Go.Proofs.YtdhakbghdcfncaaGreatDoor
set_option maxRecDepth 100000
set_option maxHeartbeats 1000000
set_option linter.unusedVariables false
set_option linter.unusedSimpArgs false
open Go.RowKit

theorem ccheck_is (u:JV) (B:Option Addr) (d:Nat) (B':Option Addr) (d':Nat) (w:World) (c q:Nat) (hv:InV w (Lo w.heap.size) u (vA u B d B' d')) (hc:JV.chk u 1 0=(c,q)):
  Calls Tryz.prog 15 #[vA u B d B' d'] w fun e w'=>e=.returned (.int .i64 (c:Nat))∧Fr w w':=by
 have HC:=Lib.hid hc
 have HV:∀ o1 o2,Hid (InV ((w.alloc o1).alloc o2) (Lo (w.heap.size+1)) u (vA u B d B' d')):=fun o1 o2=>(hv.keep (Nat.le_refl _) (((Fr.refl w).alloc o1).alloc o2)).lo (by omega)
 have HCN:∀ o1,Hid (Cnt ((w.alloc o1).alloc (.cells #[.int .i64 0] 71)) (w.heap.size+1) 0):=fun o1=>⟨by simp,by rw [World.cell?_alloc_at _ _ _ _ (by simp)];rfl,by simp⟩
 clear hc hv
 unfold vA at *
 go_enter Tryz.func15,Tryz.ntmps15
 go_wp2_with (go_at_call 39;refine ((check_is u _ (w.heap.size+1) 1 0 _ (HV _ _).out (HCN _).out (by omega) (by omega)).call rfl rfl HC.out).mono ?_;rintro e w2 ⟨rfl,hfx,_⟩;have HFX:=Lib.hid hfx;clear hfx)
 go_ret
 exact ⟨rfl,(((Fr.refl w).alloc _).alloc _).frx HFX.out (by omega)⟩

theorem InV.leaf (w:World) (S:Nat→Prop) (k n:Int) (s:List UInt8) (A A':Option Addr) (c c':Nat) (hn1:-9223372036854775808≤n) (hn2:n≤9223372036854775807) (hk1:-9223372036854775808≤k) (hk2:k≤9223372036854775807) (hs:s.length≤140737488355328):
  InV w S (.mk k n s [] []) (.agg #[.int .i64 k,.int .i64 n,.string ⟨s.toArray⟩,.slice A 0 c,.slice A' 0 c']):=
 InV.mk k n s [] [] A A' c c' (fun _ _=>.int .i64 0) (fun _ _=>.int .i64 0) hn1 hn2 hk1 hk2 hs (by simp) (by simp) (fun i h=>absurd h (by simp)) (fun h=>absurd h (by simp)) (fun i h=>absurd h (by simp)) (fun h=>absurd h (by simp))
theorem InV.ofList {w:World} {S:Nat→Prop} {b o c:Nat} {l:List JV} (hS:S b) (hl:l.length≤140737488355328)
  (h:∀ i (h:i<l.length),∃ e0 e1 e2 e3 e4,w.cell? ⟨b,o+i*5,none⟩=some e0∧w.cell? ⟨b,o+i*5+1,none⟩=some e1∧w.cell? ⟨b,o+i*5+2,none⟩=some e2∧w.cell? ⟨b,o+i*5+3,none⟩=some e3∧w.cell? ⟨b,o+i*5+4,none⟩=some e4∧InV w S l[i] (.agg #[e0,e1,e2,e3,e4])):
  InV w S (JV.listV l) (.agg #[.int .i64 5,.int .i64 0,.string ⟨#[]⟩,.slice (some ⟨b,o,none⟩) l.length c,.slice none 0 0]):=by
 refine InV.mk 5 0 [] l [] (some ⟨b,o,none⟩) none c 0 (fun i j=>(w.cell? ⟨b,o+i*5+j,none⟩).getD (.int .i64 0)) (fun _ _=>.int .i64 0) (by decide) (by decide) (by decide) (by decide) (by simp) hl (by simp) (fun i hi=>?_) (fun _=>⟨b,o,rfl,hS,fun i j hi hj=>?_⟩) (fun i h=>absurd h (by simp)) (fun h=>absurd h (by simp))
 ·obtain ⟨e0,e1,e2,e3,e4,h0,h1,h2,h3,h4,hv⟩:=h i hi
  have g0:w.cell? ⟨b,o+i*5+0,none⟩=some e0:=h0
  simp only [g0,h1,h2,h3,h4]
  exact hv
 ·obtain ⟨e0,e1,e2,e3,e4,h0,h1,h2,h3,h4,hv⟩:=h i hi
  rcases (by omega:j=0∨j=1∨j=2∨j=3∨j=4) with rfl | rfl | rfl | rfl | rfl
  ·have g0:w.cell? ⟨b,o+i*5+0,none⟩=some e0:=h0
   simp only [g0];rfl
  all_goals (simp only [h1,h2,h3,h4];rfl)
theorem InV.ofMap {w:World} {S:Nat→Prop} {b o c:Nat} {l:List (List UInt8 × JV)} (hS:S b) (hl:l.length≤140737488355328)
  (h:∀ i (h:i<l.length),l[i].1.length≤140737488355328 ∧ ∃ e0 e1 e2 e3 e4,w.cell? ⟨b,o+i*6,none⟩=some (.string ⟨l[i].1.toArray⟩)∧w.cell? ⟨b,o+i*6+1,none⟩=some e0∧w.cell? ⟨b,o+i*6+2,none⟩=some e1∧w.cell? ⟨b,o+i*6+3,none⟩=some e2∧w.cell? ⟨b,o+i*6+4,none⟩=some e3∧w.cell? ⟨b,o+i*6+5,none⟩=some e4∧InV w S l[i].2 (.agg #[e0,e1,e2,e3,e4])):
  InV w S (JV.mapV l) (.agg #[.int .i64 6,.int .i64 0,.string ⟨#[]⟩,.slice none 0 0,.slice (some ⟨b,o,none⟩) l.length c]):=by
 refine InV.mk 6 0 [] [] l none (some ⟨b,o,none⟩) 0 c (fun _ _=>.int .i64 0) (fun i j=>(w.cell? ⟨b,o+i*6+j,none⟩).getD (.int .i64 0)) (by decide) (by decide) (by decide) (by decide) (by simp) (by simp) hl (fun i h=>absurd h (by simp)) (fun h=>absurd h (by simp)) (fun i hi=>?_) (fun _=>⟨b,o,rfl,hS,fun i hi=>?_⟩)
 ·obtain ⟨hn,e0,e1,e2,e3,e4,hs,h0,h1,h2,h3,h4,hv⟩:=h i hi
  simp only [h0,h1,h2,h3,h4]
  exact hv
 ·obtain ⟨hn,e0,e1,e2,e3,e4,hs,h0,h1,h2,h3,h4,hv⟩:=h i hi
  have gs:w.cell? ⟨b,o+i*6+0,none⟩=some (.string ⟨l[i].1.toArray⟩):=hs
  refine ⟨by simp only [gs];rfl,hn,fun j hj=>?_⟩
  rcases (by omega:j=0∨j=1∨j=2∨j=3∨j=4∨j=5) with rfl | rfl | rfl | rfl | rfl | rfl
  ·simp only [gs];rfl
  all_goals (simp only [h0,h1,h2,h3,h4];rfl)

def exV:JV:=JV.listV [JV.intV (-1),JV.mapV [([97],JV.boolV 1)]]
/- Slices of members that a call made itself. -/

def mcs (xs:List (List UInt8 × Value)):List Value:=xs.flatMap fun p=>.string ⟨p.1.toArray⟩::p.2.cells.toList
def Five (v:Value):Prop:=∃ a b c d e,v=.agg #[a,b,c,d,e]∧a.oneCell'=true∧b.oneCell'=true∧c.oneCell'=true∧d.oneCell'=true∧e.oneCell'=true
theorem five_vA (u:JV) (B:Option Addr) (d:Nat) (B':Option Addr) (d':Nat):Five (vA u B d B' d'):=⟨_,_,_,_,_,rfl,rfl,rfl,rfl,rfl,rfl⟩
theorem five_cells {v:Value} (h:Five v):v.cells.toList.length=5:=by obtain ⟨a,b,c,d,e,rfl,_⟩:=h;rfl
theorem mcs_len {xs:List (List UInt8 × Value)} (h:∀ p∈xs,Five p.2):(mcs xs).length=xs.length*6:=by
 induction xs with
 | nil=>rfl
 | cons p xs ih=>
  have:=five_cells (h p (by simp))
  have ih:=ih (fun q hq=>h q (by simp [hq]))
  simp only [mcs,List.flatMap_cons,List.length_append,List.length_cons] at ih ⊢
  rw [ih,this];omega
theorem mcs_at {xs:List (List UInt8 × Value)} (h:∀ p∈xs,Five p.2) {i:Nat} (hi:i<xs.length) {j:Nat} (hj:j<6):(mcs xs)[i*6+j]? = (Value.string ⟨xs[i].1.toArray⟩::xs[i].2.cells.toList)[j]?:=by
 induction xs generalizing i with
 | nil=>simp at hi
 | cons p xs ih=>
  have h5:=five_cells (h p (by simp))
  have e:mcs (p::xs)=(Value.string ⟨p.1.toArray⟩::p.2.cells.toList)++mcs xs:=by simp [mcs]
  rw [e]
  cases i with
  | zero=>rw [Nat.zero_mul,Nat.zero_add,List.getElem?_append_left (by simp only [List.length_cons];omega)];rfl
  | succ i=>
   rw [List.getElem?_append_right (by simp only [List.length_cons];omega),List.length_cons,h5,show (i+1)*6+j - (5+1)=i*6+j by omega]
   exact ih (fun q hq=>h q (by simp [hq])) (by simpa using hi)
theorem mcs_app (a b:List (List UInt8 × Value)):mcs (a++b)=mcs a++mcs b:=by simp [mcs]
theorem mcs_one {xs:List (List UInt8 × Value)} (h:∀ p∈xs,Five p.2):∀ u∈mcs xs,u.oneCell'=true:=by
 intro u hu
 simp only [mcs,List.mem_flatMap,List.mem_cons] at hu
 obtain ⟨p,hp,rfl | hu⟩:=hu
 ·rfl
 ·obtain ⟨a,b,c,d,e,he,h1,h2,h3,h4,h5⟩:=h p hp
  rw [he] at hu
  have:u=a∨u=b∨u=c∨u=d∨u=e:=by simpa [Value.cells] using hu
  rcases this with rfl | rfl | rfl | rfl | rfl <;> assumption
theorem mb_info:(Tryz.prog.info? 39).map (fun i=>(i.zero,i.size,i.bytes))=some (some (.agg #[.string ⟨#[]⟩,.int .i64 0,.int .i64 0,.string ⟨#[]⟩,.slice none 0 0,.slice none 0 0]),6,96):=by kernel_rfl
def Mbs (w:World) (base:Nat) (v:Value) (xs:List (List UInt8 × Value)):Prop:=w.ownsRow base 39 6 v xs.length (mcs xs) ∧ ∀ p∈xs,Five p.2
theorem Mbs.none_ (w:World) (base:Nat):Mbs w base (.slice none 0 0) []:=⟨World.ownsRow_nil w base _ 6,by simp⟩
theorem Mbs.keep {w w':World} {base:Nat} {v:Value} {xs:List (List UInt8 × Value)} (h:Mbs w base v xs) (hf:Fr w w'):Mbs w' base v xs:=by
 refine ⟨?_,h.2⟩
 refine ⟨h.1.1,?_⟩
 rcases h.1.2 with hn | ⟨g,cap,cur,rfl,hb,hg,rest⟩
 ·exact .inl hn
 ·exact .inr ⟨g,cap,cur,rfl,hb,(Below.block hf g (Array.getElem?_eq_some_iff.1 hg).1).trans hg,rest⟩
theorem Mbs.form {w:World} {base:Nat} {v:Value} {xs:List (List UInt8 × Value)} (h:Mbs w base v xs):(v=.slice none 0 0∧xs=[]) ∨ ∃ g cap,v=.slice (some ⟨g,0,none⟩) xs.length cap∧base≤g∧g<w.heap.size ∧ ∀ j u,(mcs xs)[j]? = some u→w.cell? ⟨g,j,none⟩=some u:=by
 rcases h.1.2 with ⟨hv,hn⟩ | ⟨g,cap,cur,rfl,hb,hg,hc,hm,hs,ht⟩
 ·exact .inl ⟨hv,List.eq_nil_of_length_eq_zero hn⟩
 ·refine .inr ⟨g,cap,rfl,hb,(Array.getElem?_eq_some_iff.1 hg).1,fun j u hu=>?_⟩
  rw [cell_of_row w g j cur _ (0,0) hg]
  rw [← ht,List.getElem?_take] at hu
  split at hu
  ·simpa using hu
  ·cases hu
def KtM (w w':World):Prop:=w.heap.size≤w'.heap.size ∧ ∀ (Y:Nat) (c:Array Value) (t:TypeId) (f:Nat × Nat),w.heap[Y]? = some (.cells c t f)→t≠39→w'.heap[Y]? = some (.cells c t f)
theorem pick_any {α:Type} {P:Nat→α→Prop}:∀ n,(∀ i,i<n → ∃ u,P i u) → ∃ l:List α,l.length=n ∧ ∀ i (h:i<l.length),P i l[i]
 | 0,_=>⟨[],rfl,fun i h=>absurd h (by simp)⟩
 | n+1,h=>by
  obtain ⟨l,h1,h2⟩:=pick_any n (fun i hi=>h i (by omega))
  obtain ⟨u,hu⟩:=h n (by omega)
  refine ⟨l++[u],by simp [h1],fun i hi=>?_⟩
  by_cases hil:i<l.length
  ·rw [List.getElem_append_left hil];exact h2 i hil
  ·have:i=l.length:=by simp at hi;omega
   subst this
   simp only [List.getElem_concat_length]
   rw [h1];exact hu
theorem MsC.row {w:World} {S:Nat→Prop} {b o:Nat} {m:List (List UInt8 × JV)} (h:MsC w S (some ⟨b,o,none⟩) m):
  ∃ xs:List (List UInt8 × Value),xs.length=m.length∧(∀ p∈xs,Five p.2)∧(∀ i (h1:i<xs.length) (h2:i<m.length),xs[i].1=m[i].1∧m[i].1.length≤140737488355328∧InV w S m[i].2 xs[i].2) ∧ ∀ j u,(mcs xs)[j]? = some u→w.cell? ⟨b,o+j,none⟩=some u:=by
 obtain ⟨xs,h1,h2⟩:=pick_any (P:=fun i (x:List UInt8 × Value)=>∃ h:i<m.length,x.1=m[i].1∧m[i].1.length≤140737488355328∧InV w S m[i].2 x.2∧Five x.2 ∧ ∀ j,j<6→w.cell? ⟨b,o+i*6+j,none⟩=(Value.string ⟨m[i].1.toArray⟩::x.2.cells.toList)[j]?) m.length (fun i hi=>by
  obtain ⟨b2,o2,B,d,B',d',he,hS,hn,c0,⟨c1,c2,c3,c4,c5⟩,hv⟩:=h i hi
  simp only [Option.some.injEq,Addr.mk.injEq,and_true] at he
  obtain ⟨rfl,rfl⟩:=he
  refine ⟨(m[i].1,vA m[i].2 B d B' d'),hi,rfl,hn,hv,five_vA _ _ _ _ _,fun j hj=>?_⟩
  rcases (by omega:j=0∨j=1∨j=2∨j=3∨j=4∨j=5) with rfl | rfl | rfl | rfl | rfl | rfl
  ·exact c0
  ·exact c1
  ·exact c2
  ·exact c3
  ·exact c4
  ·exact c5)
 have h5:∀ p∈xs,Five p.2:=by
  intro p hp
  obtain ⟨i,hi,rfl⟩:=List.getElem_of_mem hp
  obtain ⟨_,_,_,_,h,_⟩:=h2 i hi
  exact h
 refine ⟨xs,h1,h5,fun i ha hb=>?_,fun j u hu=>?_⟩
 ·obtain ⟨_,e1,e2,e3,_⟩:=h2 i ha
  exact ⟨e1,e2,e3⟩
 ·have hj:j<xs.length*6:=by rw [← mcs_len h5];exact (List.getElem?_eq_some_iff.1 hu).1
  have hi:j / 6<xs.length:=by omega
  have ej:j=j / 6*6+j % 6:=by omega
  obtain ⟨_,e1,_,_,_,e5⟩:=h2 (j / 6) hi
  have:=e5 (j % 6) (by omega)
  rw [ej,mcs_at h5 hi (by omega)] at hu
  rw [show o+j=o+j / 6*6+j % 6 by omega,this,← e1]
  exact hu
theorem Mbs.inV {w:World} {base:Nat} {v:Value} {xs:List (List UInt8 × Value)} {m:List (List UInt8 × JV)} {S:Nat→Prop} (h:Mbs w base v xs) (hl:xs.length=m.length) (h63:m.length≤140737488355328) (hS:∀ g,base≤g→g<w.heap.size→S g)
  (he:∀ i (h1:i<xs.length) (h2:i<m.length),xs[i].1=m[i].1∧m[i].1.length≤140737488355328∧InV w S m[i].2 xs[i].2):
  InV w S (JV.mapV m) (.agg #[.int .i64 6,.int .i64 0,.string ⟨#[]⟩,.slice none 0 0,v]):=by
 rcases h.form with ⟨rfl,rfl⟩ | ⟨g,cap,rfl,hb,hg,hc⟩
 ·have:m=[]:=List.eq_nil_of_length_eq_zero (by rw [← hl];rfl)
  subst this
  exact InV.leaf w S 6 0 [] none none 0 0 (by decide) (by decide) (by decide) (by decide) (by simp)
 ·rw [hl]
  refine InV.ofMap (hS g hb hg) h63 (fun i hi=>?_)
  have hi2:i<xs.length:=by omega
  obtain ⟨e1,e2,e3⟩:=he i hi2 hi
  obtain ⟨a,b,c,d,e,h5,_⟩:=h.2 _ (List.getElem_mem hi2)
  have hat:∀ j u,j<6→(Value.string ⟨xs[i].1.toArray⟩::xs[i].2.cells.toList)[j]? = some u→w.cell? ⟨g,0+i*6+j,none⟩=some u:=by
   intro j u hj hu
   rw [Nat.zero_add]
   exact hc _ _ (by rw [mcs_at h.2 hi2 hj];exact hu)
  rw [h5] at hat
  refine ⟨e2,a,b,c,d,e,?_,hat 1 a (by omega) rfl,hat 2 b (by omega) rfl,hat 3 c (by omega) rfl,hat 4 d (by omega) rfl,hat 5 e (by omega) rfl,by rw [← h5];exact e3⟩
  have:=hat 0 _ (by omega) rfl
  rw [e1] at this
  exact this
/- Slices of values that a call made itself. -/

def vcs (xs:List Value):List Value:=xs.flatMap fun p=>p.cells.toList
theorem vcs_len {xs:List Value} (h:∀ p∈xs,Five p):(vcs xs).length=xs.length*5:=by
 induction xs with
 | nil=>rfl
 | cons p xs ih=>
  have:=five_cells (h p (by simp))
  have ih:=ih (fun q hq=>h q (by simp [hq]))
  simp only [vcs,List.flatMap_cons,List.length_append,List.length_cons] at ih ⊢
  rw [ih,this];omega
theorem vcs_at {xs:List Value} (h:∀ p∈xs,Five p) {i:Nat} (hi:i<xs.length) {j:Nat} (hj:j<5):(vcs xs)[i*5+j]? = (xs[i].cells.toList)[j]?:=by
 induction xs generalizing i with
 | nil=>simp at hi
 | cons p xs ih=>
  have h5:=five_cells (h p (by simp))
  have e:vcs (p::xs)=p.cells.toList++vcs xs:=by simp [vcs]
  rw [e]
  cases i with
  | zero=>rw [Nat.zero_mul,Nat.zero_add,List.getElem?_append_left (by omega)];rfl
  | succ i=>
   rw [List.getElem?_append_right (by omega),h5,show (i+1)*5+j - 5=i*5+j by omega]
   exact ih (fun q hq=>h q (by simp [hq])) (by simpa using hi)
theorem vcs_app (a b:List Value):vcs (a++b)=vcs a++vcs b:=by simp [vcs]
theorem vcs_one {xs:List Value} (h:∀ p∈xs,Five p):∀ u∈vcs xs,u.oneCell'=true:=by
 intro u hu
 simp only [vcs,List.mem_flatMap] at hu
 obtain ⟨p,hp,hu⟩:=hu
 obtain ⟨a,b,c,d,e,he,h1,h2,h3,h4,h5⟩:=h p hp
 rw [he] at hu
 have:u=a∨u=b∨u=c∨u=d∨u=e:=by simpa [Value.cells] using hu
 rcases this with rfl | rfl | rfl | rfl | rfl <;> assumption
theorem vb_info:(Tryz.prog.info? 25).map (fun i=>(i.zero,i.size,i.bytes))=some (some (.agg #[.int .i64 0,.int .i64 0,.string ⟨#[]⟩,.slice none 0 0,.slice none 0 0]),5,80):=by kernel_rfl
def Vbs (w:World) (base:Nat) (v:Value) (xs:List Value):Prop:=w.ownsRow base 25 5 v xs.length (vcs xs) ∧ ∀ p∈xs,Five p
theorem Vbs.none_ (w:World) (base:Nat):Vbs w base (.slice none 0 0) []:=⟨World.ownsRow_nil w base _ 5,by simp⟩
theorem Vbs.keep {w w':World} {base:Nat} {v:Value} {xs:List Value} (h:Vbs w base v xs) (hf:Fr w w'):Vbs w' base v xs:=by
 refine ⟨⟨h.1.1,?_⟩,h.2⟩
 rcases h.1.2 with hn | ⟨g,cap,cur,rfl,hb,hg,rest⟩
 ·exact .inl hn
 ·exact .inr ⟨g,cap,cur,rfl,hb,(Below.block hf g (Array.getElem?_eq_some_iff.1 hg).1).trans hg,rest⟩
theorem Vbs.frx {w w':World} {R base:Nat} {v:Value} {xs:List Value} (h:Vbs w base v xs) (hR:R<base) (hf:FrX R w w'):Vbs w' base v xs:=by
 refine ⟨⟨h.1.1,?_⟩,h.2⟩
 rcases h.1.2 with hn | ⟨g,cap,cur,rfl,hb,hg,rest⟩
 ·exact .inl hn
 ·exact .inr ⟨g,cap,cur,rfl,hb,(hf.blk (Array.getElem?_eq_some_iff.1 hg).1 (by omega)).trans hg,rest⟩
theorem Vbs.form {w:World} {base:Nat} {v:Value} {xs:List Value} (h:Vbs w base v xs):(v=.slice none 0 0∧xs=[]) ∨ ∃ g cap,v=.slice (some ⟨g,0,none⟩) xs.length cap∧base≤g∧g<w.heap.size ∧ ∀ j u,(vcs xs)[j]? = some u→w.cell? ⟨g,j,none⟩=some u:=by
 rcases h.1.2 with ⟨hv,hn⟩ | ⟨g,cap,cur,rfl,hb,hg,hc,hm,hs,ht⟩
 ·exact .inl ⟨hv,List.eq_nil_of_length_eq_zero hn⟩
 ·refine .inr ⟨g,cap,rfl,hb,(Array.getElem?_eq_some_iff.1 hg).1,fun j u hu=>?_⟩
  rw [cell_of_row w g j cur _ (0,0) hg]
  rw [← ht,List.getElem?_take] at hu
  split at hu
  ·simpa using hu
  ·cases hu
theorem Vbs.inV {w:World} {base:Nat} {v:Value} {xs:List Value} {l:List JV} {S:Nat→Prop} (h:Vbs w base v xs) (hl:xs.length=l.length) (h63:l.length≤140737488355328) (hS:∀ g,base≤g→g<w.heap.size→S g)
  (he:∀ i (h1:i<xs.length) (h2:i<l.length),InV w S l[i] xs[i]):
  InV w S (JV.listV l) (.agg #[.int .i64 5,.int .i64 0,.string ⟨#[]⟩,v,.slice none 0 0]):=by
 rcases h.form with ⟨rfl,rfl⟩ | ⟨g,cap,rfl,hb,hg,hc⟩
 ·have:l=[]:=List.eq_nil_of_length_eq_zero (by rw [← hl];rfl)
  subst this
  exact InV.leaf w S 5 0 [] none none 0 0 (by decide) (by decide) (by decide) (by decide) (by simp)
 ·rw [hl]
  refine InV.ofList (hS g hb hg) h63 (fun i hi=>?_)
  have hi2:i<xs.length:=by omega
  obtain ⟨a,b,c,d,e,h5,_⟩:=h.2 _ (List.getElem_mem hi2)
  have hat:∀ j u,j<5→(xs[i].cells.toList)[j]? = some u→w.cell? ⟨g,0+i*5+j,none⟩=some u:=by
   intro j u hj hu
   rw [Nat.zero_add]
   exact hc _ _ (by rw [vcs_at h.2 hi2 hj];exact hu)
  rw [h5] at hat
  refine ⟨a,b,c,d,e,hat 0 a (by omega) rfl,hat 1 b (by omega) rfl,hat 2 c (by omega) rfl,hat 3 d (by omega) rfl,hat 4 e (by omega) rfl,by rw [← h5];exact he i hi2 hi⟩
/- Lists of values, and of members, that a call makes: what they show. -/

def Blk (w:World) (X:Nat) (cs:Array Value) (T:TypeId):Prop:=w.heap[X]? = some (.cells cs T (0,0))
theorem Blk.lt {w:World} {X:Nat} {cs:Array Value} {T:TypeId} (h:Blk w X cs T):X<w.heap.size:=(Array.getElem?_eq_some_iff.1 h).1
theorem Blk.made (w:World) (cs:Array Value) (T:TypeId):Blk (w.alloc (.cells cs T)) w.heap.size cs T:=heap_made w cs T
theorem Blk.keep {w w':World} {X:Nat} {cs:Array Value} {T:TypeId} (h:Blk w X cs T) (hf:Fr w w'):Blk w' X cs T:=(Below.block hf X h.lt).trans h
theorem Blk.frx {w w':World} {X C:Nat} {cs:Array Value} {T:TypeId} (h:Blk w X cs T) (hf:FrX C w w') (hne:X≠C):Blk w' X cs T:=(hf.blk h.lt hne).trans h
theorem Blk.cell {w:World} {X:Nat} {cs:Array Value} {T:TypeId} (h:Blk w X cs T) (j:Nat):w.cell? ⟨X,j,none⟩=cs[j]?:=cell_of_row w X j cs _ (0,0) h
theorem Blk.free {w:World} {X:Nat} {cs:Array Value} {T:TypeId} (h:Blk w X cs T) (j:Nat):w.frozen? ⟨X,j,none⟩=false:=by
 have h':w.heap[X]? = some (.cells cs T (0,0)):=h
 unfold World.frozen?;rw [h'];simp
theorem Blk.set {w:World} {X:Nat} {cs:Array Value} {T:TypeId} (h:Blk w X cs T) (j:Nat) (v:Value):Blk (w.setCell ⟨X,j,none⟩ v) X (cs.setIfInBounds j v) T:=by
 have h':w.heap[X]? = some (.cells cs T (0,0)):=h
 unfold Blk
 simp [World.setCell,Array.getElem?_modify,h']
theorem Blk.other {w:World} {X:Nat} {cs:Array Value} {T:TypeId} (h:Blk w X cs T) {p:Addr} (hp:p.block≠X) (v:Value):Blk (w.setCell p v) X cs T:=(Below.heap_setCell _ _ _ _ (fun e=>hp e.symm)).trans h

def In (lo:Nat) (w:World) (v:Value):Nat→Prop:=fun b=>lo≤b∧b<w.heap.size∧v.ownBlock≠some b
def VsI (w:World) (lo base:Nat) (v:Value) (l:List JV):Prop:=lo≤base ∧ ∃ xs:List Value,Vbs w base v xs∧xs.length=l.length ∧ ∀ i (h1:i<xs.length) (h2:i<l.length),InV w (In lo w v) l[i] xs[i]
theorem VsI.none_ (w:World) {lo base:Nat} (h:lo≤base):VsI w lo base (.slice none 0 0) []:=⟨h,[],Vbs.none_ w base,rfl,fun i h=>absurd h (by simp)⟩
theorem In.grow {lo:Nat} {w w':World} {v:Value} (h:w.heap.size≤w'.heap.size):∀ b,In lo w v b→In lo w' v b:=fun b hb=>⟨hb.1,Nat.lt_of_lt_of_le hb.2.1 h,hb.2.2⟩
theorem VsI.keep {w w':World} {lo base:Nat} {v:Value} {l:List JV} (h:VsI w lo base v l) (hf:Fr w w'):VsI w' lo base v l:=by
 obtain ⟨h0,xs,h1,h2,h3⟩:=h
 exact ⟨h0,xs,h1.keep hf,h2,fun i a b=>(h3 i a b).map (In.grow hf.size) (fun b o hs=>hf.cell hs.2.1)⟩
theorem VsI.frx {w w':World} {R lo base:Nat} {v:Value} {l:List JV} (h:VsI w lo base v l) (hR:R<lo) (hf:FrX R w w'):VsI w' lo base v l:=by
 obtain ⟨h0,xs,h1,h2,h3⟩:=h
 exact ⟨h0,xs,h1.frx (by omega) hf,h2,fun i a b=>(h3 i a b).map (In.grow hf.size) (fun b o hs=>hf.cell hs.2.1 (by have:=hs.1;omega))⟩
theorem VsI.is_slice {w:World} {lo base:Nat} {v:Value} {l:List JV} (h:VsI w lo base v l):∃ a c,v=.slice a l.length c:=by
 obtain ⟨_,xs,h1,h2,_⟩:=h
 rcases h1.form with ⟨rfl,rfl⟩ | ⟨g,cap,rfl,_⟩
 ·exact ⟨none,0,by rw [← h2];rfl⟩
 ·exact ⟨_,_,by rw [h2]⟩
theorem Vbs.own_lt {w:World} {base:Nat} {v:Value} {xs:List Value} (h:Vbs w base v xs) {k:Nat} (hk:v.ownBlock=some k):base≤k∧k<w.heap.size:=World.ownsRow.lt h.1 k hk
theorem VsI.own_lt {w:World} {lo base:Nat} {v:Value} {l:List JV} (h:VsI w lo base v l) {k:Nat} (hk:v.ownBlock=some k):base≤k∧k<w.heap.size:=by
 obtain ⟨_,xs,h1,_⟩:=h;exact h1.own_lt hk
theorem In.new {w0 w w':World} {lo base:Nat} {v:Value} {l:List JV} (h:VsI w0 lo base v l) (hs:base≤w0.heap.size) (hw:w0.heap.size≤w.heap.size):∀ b,Be w.heap.size w'.heap.size b→In lo w' v b:=fun b hb=>
 ⟨Nat.le_trans h.1 (Nat.le_trans hs (Nat.le_trans hw hb.1)),hb.2,fun e=>by have:=(h.own_lt e).2;have:=hb.1;omega⟩
theorem VsI.inV {w:World} {lo base:Nat} {v:Value} {l:List JV} (h:VsI w lo base v l) (h63:l.length≤140737488355328):InV w (Be lo w.heap.size) (JV.listV l) (.agg #[.int .i64 5,.int .i64 0,.string ⟨#[]⟩,v,.slice none 0 0]):=by
 obtain ⟨h0,xs,h1,h2,h3⟩:=h
 exact h1.inV h2 h63 (fun g hg hl=>⟨by omega,hl⟩) (fun i a b=>(h3 i a b).more (fun b hb=>⟨hb.1,hb.2.1⟩))
theorem wpl_vs {ops:Array Oper} {rest:List Oper} {o:Oper} {a:Act} {w:World} {Q:Exit→Act→World→Prop} {cs:Array Value} {ad:Addr}
  (hgd:o.guard=none) (s x:Operand) (ho:o.op=.call { callee:=.builtin .append,args:=#[s,x],argTypes:=#[22,22] })
  (lo base:Nat) (hb:base≤w.heap.size) (v:Value) (l:List JV) (hs:a.eval s=v) (hown:VsI w lo base v l) (u:JV) (h5:Five (.agg cs)) (hu:InV w (In lo w v) u (.agg cs)) (hx:a.eval x=.slice (some ad) 1 1) (had:ad=⟨w.heap.size,0,none⟩) (h63:(l.length+1)*80≤140737488355328)
  (h:∀ v' w',VsI w' lo base v' (l++[u])→Below base w w'→(∀ k,k<w.heap.size→v.ownBlock≠some k→w'.heap[k]? = w.heap[k]?)→wpList Tryz.prog ops Q rest (a.put o.dst v') w'):
  wpList Tryz.prog ops Q (o::rest) a (w.alloc (.cells cs 25)):=by
 subst had
 obtain ⟨h0,xs,hvb,hlen,hin⟩:=hown
 obtain ⟨i,hi,hz,hsz,hby⟩:=info_parts vb_info
 have hnew:∀ p∈[Value.agg cs],Five p:=by intro p hp;simp at hp;subst hp;exact h5
 have hvc:vcs [Value.agg cs]=cs.toList:=by simp [vcs,Value.cells]
 refine wpList_append_own_at (w.alloc _) hgd s x 22 ho base 25 i _ 5 80 Tryz.underlying22 hi hz hsz hby rfl (by omega) v _ (vcs xs) hs (hvb.keep ((Fr.refl w).alloc _)).1 ⟨w.heap.size,0,none⟩ 1 1 (vcs [Value.agg cs]) hx (vcs_len hnew) ?_ (vcs_one hnew) (by unfold maxLen;omega) (by omega) (by simp;omega) ?_
 ·intro j z hz
  have e1:(Addr.mk w.heap.size 0 none).add j=⟨w.heap.size,j,none⟩:=by
   by_cases h0:j=0
   ·subst h0;simp [Addr.add]
   ·simp [Addr.add,h0]
  rw [e1,World.cell?_alloc_at _ _ _ _ rfl]
  rw [hvc] at hz
  simpa using hz
 ·intro v' w' h3 h4 _ h6
  have hbel:Below base w w':=Below.grown (Below.alloc (Below.refl _ _) hb _) h4 (by simp;omega) (fun k hk=>(World.ownsRow.lt hvb.1 k hk).1)
  have hkeep:∀ k,k<w.heap.size→v.ownBlock≠some k→w'.heap[k]? = w.heap[k]?:=fun k hk hne=>by
   rw [h4.block k (by simp;omega) (fun e=>hne e.symm),Below.heap_alloc _ _ _ hk]
  have hsz2:w.heap.size+1≤w'.heap.size:=by have:=h4.size;simpa using this
  have hS:∀ b,In lo w v b→In lo w' v' b:=fun b hb=>by
   refine ⟨hb.1,by have:=hb.2.1;omega,fun e=>?_⟩
   rcases h6 with h6 | h6
   ·exact hb.2.2 (h6.symm.trans e)
   ·rw [h6] at e
    have:=Option.some.inj e
    simp at this
    have:=hb.2.1;omega
  have hC:∀ b o,In lo w v b→w'.cell? ⟨b,o,none⟩=w.cell? ⟨b,o,none⟩:=fun b o hb=>by
   unfold World.cell?;rw [hkeep b hb.2.1 hb.2.2]
  refine h v' w' ⟨h0,xs++[.agg cs],⟨?_,?_⟩,by simp [hlen],fun i a b=>?_⟩ hbel hkeep
  ·rw [vcs_app,List.length_append];exact h3
  ·intro p hp
   rcases List.mem_append.1 hp with hp | hp
   ·exact hvb.2 p hp
   ·exact hnew p hp
  ·by_cases hil:i<l.length
   ·rw [List.getElem_append_left hil,List.getElem_append_left (by omega)]
    exact (hin i (by omega) hil).map hS hC
   ·have:i=l.length:=by simp at b;omega
    subst this
    rw [List.getElem_concat_length rfl,List.getElem_concat_length (by omega)]
    exact hu.map hS hC

def MsI (w:World) (lo base:Nat) (v:Value) (m:List (List UInt8 × JV)):Prop:=lo≤base ∧ ∃ xs:List (List UInt8 × Value),Mbs w base v xs∧xs.length=m.length ∧ ∀ i (h1:i<xs.length) (h2:i<m.length),xs[i].1=m[i].1∧m[i].1.length≤140737488355328∧InV w (In lo w v) m[i].2 xs[i].2
theorem MsI.none_ (w:World) {lo base:Nat} (h:lo≤base):MsI w lo base (.slice none 0 0) []:=⟨h,[],Mbs.none_ w base,rfl,fun i h=>absurd h (by simp)⟩
theorem MsI.is_slice {w:World} {lo base:Nat} {v:Value} {m:List (List UInt8 × JV)} (h:MsI w lo base v m):∃ a c,v=.slice a m.length c:=by
 obtain ⟨_,xs,h1,h2,_⟩:=h
 rcases h1.form with ⟨rfl,rfl⟩ | ⟨g,cap,rfl,_⟩
 ·exact ⟨none,0,by rw [← h2];rfl⟩
 ·exact ⟨_,_,by rw [h2]⟩
theorem MsI.inV {w:World} {lo base:Nat} {v:Value} {m:List (List UInt8 × JV)} (h:MsI w lo base v m) (h63:m.length≤140737488355328):InV w (Be lo w.heap.size) (JV.mapV m) (.agg #[.int .i64 6,.int .i64 0,.string ⟨#[]⟩,.slice none 0 0,v]):=by
 obtain ⟨h0,xs,h1,h2,h3⟩:=h
 exact h1.inV h2 h63 (fun g hg hl=>⟨by omega,hl⟩) (fun i a b=>⟨(h3 i a b).1,(h3 i a b).2.1,(h3 i a b).2.2.more (fun b hb=>⟨hb.1,hb.2.1⟩)⟩)
theorem FrX.beyond {R B:Nat} {a w w':World} (h:FrX R a w) (hb:Below B w w') (hB:a.heap.size≤B):FrX R a w':=by
 have h':a.grownBy w (some R):=h
 exact ⟨hb.os.trans h'.os,hb.tape.trans h'.tape,hb.output.trans h'.output,Nat.le_trans h'.size (Below.size hb),fun k hk hne=>(Below.block hb k (Nat.lt_of_lt_of_le hk hB)).trans (h'.block k hk hne)⟩
/- Members that a call collects, while boxes of its own change. -/

def MsS (w:World) (S:Nat→Prop) (lo:Nat) (v:Value) (m:List (List UInt8 × JV)):Prop:=(∀ b,S b→lo≤b∧b<w.heap.size∧v.ownBlock≠some b) ∧
 ∃ xs:List (List UInt8 × Value),Mbs w lo v xs∧xs.length=m.length ∧ ∀ i (h1:i<xs.length) (h2:i<m.length),xs[i].1=m[i].1∧m[i].1.length≤140737488355328∧InV w S m[i].2 xs[i].2
theorem Mbs.le {w:World} {a b:Nat} {v:Value} {xs:List (List UInt8 × Value)} (h:Mbs w b v xs) (hab:a≤b):Mbs w a v xs:=by
 refine ⟨⟨h.1.1,?_⟩,h.2⟩
 rcases h.1.2 with hn | ⟨g,cap,cur,rfl,hb,hg,rest⟩
 ·exact .inl hn
 ·exact .inr ⟨g,cap,cur,rfl,by omega,hg,rest⟩
theorem MsS.toI {w:World} {S:Nat→Prop} {lo:Nat} {v:Value} {m:List (List UInt8 × JV)} (h:MsS w S lo v m) (a:Nat) (ha:a≤lo):MsI w a a v m:=by
 obtain ⟨h0,xs,h1,h2,h3⟩:=h
 exact ⟨Nat.le_refl _,xs,h1.le ha,h2,fun i a b=>⟨(h3 i a b).1,(h3 i a b).2.1,(h3 i a b).2.2.more (fun b hb=>⟨by have:=(h0 b hb).1;omega,(h0 b hb).2⟩)⟩⟩
theorem MsS.own {w:World} {S:Nat→Prop} {lo:Nat} {v:Value} {m:List (List UInt8 × JV)} (h:MsS w S lo v m) {k:Nat} (hk:v.ownBlock=some k):lo≤k∧k<w.heap.size ∧ ∃ c f,w.heap[k]? = some (.cells c 39 f):=by
 obtain ⟨h0,xs,h1,_⟩:=h
 have:=World.ownsRow.lt h1.1 k hk
 refine ⟨this.1,this.2,?_⟩
 rcases h1.1.2 with ⟨rfl,_⟩ | ⟨g,cap,cur,rfl,hb,hg,rest⟩
 ·cases hk
 ·obtain rfl:g=k:=Option.some.inj hk
  exact ⟨_,_,hg⟩
theorem MsS.ne {w:World} {S:Nat→Prop} {lo:Nat} {v:Value} {m:List (List UInt8 × JV)} (h:MsS w S lo v m) {X:Nat} {cs:Array Value} {T:TypeId} (hX:Blk w X cs T) (hT:T≠39):v.ownBlock≠some X:=by
 intro e
 obtain ⟨_,_,c,f,hc⟩:=h.own e
 have hX':w.heap[X]? = some (.cells cs T (0,0)):=hX
 rw [hX'] at hc
 injection hc with hc;injection hc with _ h2 _
 exact hT h2
theorem MsS.frx {w w':World} {S:Nat→Prop} {lo:Nat} {v:Value} {m:List (List UInt8 × JV)} (h:MsS w S lo v m) {X:Nat} (hS:¬ S X) (hne:v.ownBlock≠some X) (hf:FrX X w w'):MsS w' S lo v m:=by
 obtain ⟨h0,xs,h1,h2,h3⟩:=h
 refine ⟨fun b hb=>⟨(h0 b hb).1,Nat.lt_of_lt_of_le (h0 b hb).2.1 hf.size,(h0 b hb).2.2⟩,xs,⟨⟨h1.1.1,?_⟩,h1.2⟩,h2,fun i a b=>⟨(h3 i a b).1,(h3 i a b).2.1,(h3 i a b).2.2.map (fun _ h=>h) (fun b o hs=>hf.cell (h0 b hs).2.1 (fun e=>hS (e ▸ hs)))⟩⟩
 rcases h1.1.2 with hn | ⟨g,cap,cur,rfl,hb,hg,rest⟩
 ·exact .inl hn
 ·exact .inr ⟨g,cap,cur,rfl,hb,(hf.blk (Array.getElem?_eq_some_iff.1 hg).1 (fun e=>hne (by rw [← e];rfl))).trans hg,rest⟩
theorem MsS.keep {w w':World} {S:Nat→Prop} {lo:Nat} {v:Value} {m:List (List UInt8 × JV)} (h:MsS w S lo v m) (hf:Fr w w'):MsS w' S lo v m:=by
 obtain ⟨h0,xs,h1,h2,h3⟩:=h
 exact ⟨fun b hb=>⟨(h0 b hb).1,Nat.lt_of_lt_of_le (h0 b hb).2.1 hf.size,(h0 b hb).2.2⟩,xs,h1.keep hf,h2,fun i a b=>⟨(h3 i a b).1,(h3 i a b).2.1,(h3 i a b).2.2.map (fun _ h=>h) (fun b o hs=>hf.cell (h0 b hs).2.1)⟩⟩
theorem MsS.below {w w':World} {S:Nat→Prop} {lo:Nat} {v:Value} {m:List (List UInt8 × JV)} (h:MsS w S lo v m) {R:Nat} (hR:R<lo) (hf:FrX R w w'):MsS w' S lo v m:=
 h.frx (fun hs=>by have:=(h.1 R hs).1;omega) (fun e=>by have:=(h.own e).1;omega) hf
theorem wpl_mS {ops:Array Oper} {rest:List Oper} {o:Oper} {a:Act} {w:World} {Q:Exit→Act→World→Prop} {cs:Array Value} {ad:Addr}
  (hgd:o.guard=none) (s x:Operand) (ho:o.op=.call { callee:=.builtin .append,args:=#[s,x],argTypes:=#[23,23] })
  (S:Nat→Prop) (lo:Nat) (hb:lo≤w.heap.size) (v:Value) (l:List (List UInt8 × JV)) (hs:a.eval s=v) (hown:MsS w S lo v l) (nm:List UInt8) (hn:nm.length≤140737488355328) (u:JV) (cs5:Array Value) (hcs:cs.toList=.string ⟨nm.toArray⟩::cs5.toList) (h5:Five (.agg cs5)) (Su:Nat→Prop) (hSu:∀ b,Su b→lo≤b∧b<w.heap.size∧v.ownBlock≠some b) (hu:InV w Su u (.agg cs5)) (hx:a.eval x=.slice (some ad) 1 1) (had:ad=⟨w.heap.size,0,none⟩) (h63:(l.length+1)*96≤140737488355328)
  (h:∀ v' w',MsS w' (fun b=>S b∨Su b) lo v' (l++[(nm,u)])→Below lo w w'→(∀ k,k<w.heap.size→v.ownBlock≠some k→w'.heap[k]? = w.heap[k]?)→wpList Tryz.prog ops Q rest (a.put o.dst v') w'):
  wpList Tryz.prog ops Q (o::rest) a (w.alloc (.cells cs 39)):=by
 subst had
 obtain ⟨h0,xs,hvb,hlen,hin⟩:=hown
 obtain ⟨i,hi,hz,hsz,hby⟩:=info_parts mb_info
 have hnew:∀ p∈[(nm,Value.agg cs5)],Five p.2:=by intro p hp;simp at hp;subst hp;exact h5
 have hvc:mcs [(nm,Value.agg cs5)]=cs.toList:=by rw [hcs];simp [mcs,Value.cells]
 refine wpList_append_own_at (w.alloc _) hgd s x 23 ho lo 39 i _ 6 96 Tryz.underlying23 hi hz hsz hby rfl (by omega) v _ (mcs xs) hs (hvb.keep ((Fr.refl w).alloc _)).1 ⟨w.heap.size,0,none⟩ 1 1 (mcs [(nm,Value.agg cs5)]) hx (mcs_len hnew) ?_ (mcs_one hnew) (by unfold maxLen;omega) (by omega) (by simp;omega) ?_
 ·intro j z hz
  have e1:(Addr.mk w.heap.size 0 none).add j=⟨w.heap.size,j,none⟩:=by
   by_cases h0:j=0
   ·subst h0;simp [Addr.add]
   ·simp [Addr.add,h0]
  rw [e1,World.cell?_alloc_at _ _ _ _ rfl]
  rw [hvc] at hz
  simpa using hz
 ·intro v' w' h3 h4 _ h6
  have hbel:Below lo w w':=Below.grown (Below.alloc (Below.refl _ _) hb _) h4 (by simp;omega) (fun k hk=>(World.ownsRow.lt hvb.1 k hk).1)
  have hkeep:∀ k,k<w.heap.size→v.ownBlock≠some k→w'.heap[k]? = w.heap[k]?:=fun k hk hne=>by
   rw [h4.block k (by simp;omega) (fun e=>hne e.symm),Below.heap_alloc _ _ _ hk]
  have hsz2:w.heap.size+1≤w'.heap.size:=by have:=h4.size;simpa using this
  have hne':∀ b,b<w.heap.size→v.ownBlock≠some b→v'.ownBlock≠some b:=fun b hb hne e=>by
   rcases h6 with h6 | h6
   ·exact hne (h6.symm.trans e)
   ·rw [h6] at e
    have:=Option.some.inj e
    simp at this
    omega
  have hC:∀ b o,(S b∨Su b)→w'.cell? ⟨b,o,none⟩=w.cell? ⟨b,o,none⟩:=fun b o hb=>by
   unfold World.cell?
   rcases hb with hb | hb
   ·rw [hkeep b (h0 b hb).2.1 (h0 b hb).2.2]
   ·rw [hkeep b (hSu b hb).2.1 (hSu b hb).2.2]
  refine h v' w' ⟨fun b hb=>?_,xs++[(nm,.agg cs5)],⟨?_,?_⟩,by simp [hlen],fun i a b=>?_⟩ hbel hkeep
  ·rcases hb with hb | hb
   ·exact ⟨(h0 b hb).1,by have:=(h0 b hb).2.1;omega,hne' b (h0 b hb).2.1 (h0 b hb).2.2⟩
   ·exact ⟨(hSu b hb).1,by have:=(hSu b hb).2.1;omega,hne' b (hSu b hb).2.1 (hSu b hb).2.2⟩
  ·rw [mcs_app,List.length_append];exact h3
  ·intro p hp
   rcases List.mem_append.1 hp with hp | hp
   ·exact hvb.2 p hp
   ·exact hnew p hp
  ·by_cases hil:i<l.length
   ·rw [List.getElem_append_left hil,List.getElem_append_left (by omega)]
    exact ⟨(hin i (by omega) hil).1,(hin i (by omega) hil).2.1,(hin i (by omega) hil).2.2.map (fun b hb=>.inl hb) (fun b o hb=>hC b o (.inl hb))⟩
   ·have:i=l.length:=by simp at b;omega
    subst this
    rw [List.getElem_concat_length rfl,List.getElem_concat_length (by omega)]
    exact ⟨rfl,hn,hu.map (fun b hb=>.inr hb) (fun b o hb=>hC b o (.inr hb))⟩
theorem Known.blk {w w':World} {b n:Nat} {ks:List (List UInt8)} (h:Known w b n ks) (hf:w'.heap[b]? = w.heap[b]?):Known w' b n ks:=by
 obtain ⟨D,⟨es,clock,hb,F,hs,hD⟩,h2,h3⟩:=h
 exact ⟨D,⟨es,clock,hf.trans hb,F,hs,hD⟩,h2,h3⟩
theorem Known.frx {w w':World} {b n X:Nat} {ks:List (List UInt8)} (h:Known w b n ks) (hf:FrX X w w') (hne:b≠X):Known w' b n ks:=h.blk (hf.blk h.lt hne)
theorem Blk.know {w:World} {X b:Nat} {cs:Array Value} {T:TypeId} {n:Nat} {ks:List (List UInt8)} (h:Blk w X cs T) (hk:Known w b n ks):b≠X:=by
 rintro rfl
 obtain ⟨D,⟨es,clock,hb,_⟩,_⟩:=hk
 have h':w.heap[b]? = some (.cells cs T (0,0)):=h
 rw [h'] at hb
 injection hb with hb;cases hb
/- Appends of values, as a law for a region that draws its order; of several values at once. -/

end Go.Proofs.YtdhakbghdcfncaaGreatDoor
