/- Lists of members that a call collects: out of what came in, and of new memory. -/
import Derived.Test.YtdhakbghdcfncaaGreatDoorPte
import Derived.Test.YtdhakbghdcfncaaGreatDoorEe
import Derived.OneCell
import Derived.Lib.SliceRun
namespace Go.Proofs.YtdhakbghdcfncaaGreatDoor
set_option maxRecDepth 100000
set_option maxHeartbeats 2000000
set_option linter.unusedVariables false
set_option linter.unusedSimpArgs false
open Go.RowKit

def MsB (w:World) (Z K:Nat) (v:Value) (m:List (List UInt8 × JV)):Prop:=(Z≤K∧K≤w.heap.size) ∧ ∃ xs:List (List UInt8 × Value),Mbs w K v xs∧xs.length=m.length ∧ ∀ i (h1:i<xs.length) (h2:i<m.length),xs[i].1=m[i].1∧m[i].1.length≤140737488355328∧InV w (Lo Z) m[i].2 xs[i].2
theorem Mbs.own_ltB {w:World} {base:Nat} {v:Value} {xs:List (List UInt8 × Value)} (h:Mbs w base v xs) {k:Nat} (hk:v.ownBlock=some k):base≤k∧k<w.heap.size:=World.ownsRow.lt h.1 k hk
theorem InB.okM {Z K:Nat} {w:World} {v:Value} (hK:Z≤K∧K≤w.heap.size) {xs:List (List UInt8 × Value)} (h:Mbs w K v xs) {b:Nat} (hb:Lo Z b):b<w.heap.size∧v.ownBlock≠some b:=by
 have hb:b<Z:=hb
 exact ⟨by omega,fun e=>by have:=(h.own_ltB e).1;omega⟩
theorem MsB.none_ (w:World) {Z K:Nat} (h:Z≤K∧K≤w.heap.size):MsB w Z K (.slice none 0 0) []:=⟨h,[],Mbs.none_ w K,rfl,fun i h=>absurd h (by simp)⟩
theorem MsB.keep {w w':World} {Z K:Nat} {v:Value} {l:List (List UInt8 × JV)} (h:MsB w Z K v l) (hf:Fr w w'):MsB w' Z K v l:=by
 obtain ⟨h0,xs,h1,h2,h3⟩:=h
 exact ⟨⟨h0.1,Nat.le_trans h0.2 hf.size⟩,xs,h1.keep hf,h2,fun i a b=>⟨(h3 i a b).1,(h3 i a b).2.1,(h3 i a b).2.2.map (fun _ h=>h) (fun b o hs=>hf.cell (InB.okM h0 h1 hs).1)⟩⟩
theorem MsB.is_slice {w:World} {Z K:Nat} {v:Value} {l:List (List UInt8 × JV)} (h:MsB w Z K v l):∃ a c,v=.slice a l.length c:=by
 obtain ⟨_,xs,h1,h2,_⟩:=h
 rcases h1.form with ⟨rfl,rfl⟩ | ⟨g,cap,rfl,_⟩
 ·exact ⟨none,0,by rw [← h2];rfl⟩
 ·exact ⟨_,_,by rw [h2]⟩
theorem MsB.is_slice2 {w:World} {Z K:Nat} {v:Value} {l us:List (List UInt8 × JV)} (h:MsB w Z K v (l++us)) {n:Nat} (hn:us.length=n):∃ a c,v=.slice a (l.length+n) c:=by
 obtain ⟨a,c,e⟩:=h.is_slice;exact ⟨a,c,by rw [e,List.length_append,hn]⟩
theorem MsB.own_lt {w:World} {Z K:Nat} {v:Value} {l:List (List UInt8 × JV)} (h:MsB w Z K v l) {k:Nat} (hk:v.ownBlock=some k):K≤k∧k<w.heap.size:=by
 obtain ⟨_,xs,h1,_⟩:=h;exact h1.own_ltB hk
theorem MsB.inV {w:World} {Z K:Nat} {v:Value} {l:List (List UInt8 × JV)} (h:MsB w Z K v l) (h63:l.length≤140737488355328):InV w (fun b=>b<Z∨(K≤b∧b<w.heap.size)) (JV.mapV l) (.agg #[.int .i64 6,.int .i64 0,.string ⟨#[]⟩,.slice none 0 0,v]):=by
 obtain ⟨h0,xs,h1,h2,h3⟩:=h
 exact h1.inV h2 h63 (fun g hg hl=>.inr ⟨hg,hl⟩) (fun i a b=>⟨(h3 i a b).1,(h3 i a b).2.1,(h3 i a b).2.2.more (fun b hb=>.inl hb)⟩)
theorem run_mBk {w:World} (ty:TypeId) (Z K:Nat) (v:Value) (l:List (List UInt8 × JV)) (hown:MsB w Z K v l) (ad:Addr) (c:Nat) (us:List (List UInt8 × JV)) (news:List (List UInt8 × Value)) (hln:news.length=us.length) (h5:∀ p∈news,Five p.2) (hu:∀ i (h1:i<news.length) (h2:i<us.length),news[i].1=us[i].1∧us[i].1.length≤140737488355328∧InV w (Lo Z) us[i].2 news[i].2)
  (hcells:∀ j u,(mcs news)[j]? = some u→w.cell? (ad.add j)=some u) (h63:(l.length+us.length)*96≤140737488355328):
  ∃ v' w',(Builtin.append_ #[23,23] ty #[v,.slice (some ad) us.length c]).run Tryz.prog w=.ok v' w'∧MsB w' Z K v' (l++us)∧w.grownBy w' v.ownBlock∧(v'.ownBlock=v.ownBlock∨v'.ownBlock=some w.heap.size):=by
 obtain ⟨h0,xs,hvb,hlen,hin⟩:=hown
 obtain ⟨i,hi,hz,hsz,hby⟩:=info_parts mb_info
 obtain ⟨v',w',hr,h3,h4,_,h6⟩:=run_append_own_at (P:=Tryz.prog) w K 23 ty 39 i _ 6 96 Tryz.underlying23 hi hz hsz hby rfl (by omega) v _ (mcs xs) hvb.1 ad us.length c (mcs news) (by rw [← hln];exact mcs_len h5) hcells (mcs_one h5) (by unfold maxLen;omega) (by omega) h0.2
 have hC:∀ b o,Lo Z b→w'.cell? ⟨b,o,none⟩=w.cell? ⟨b,o,none⟩:=fun b o hb=>by
  have hk:=InB.okM h0 hvb hb
  unfold World.cell?;rw [h4.block b hk.1 (fun e=>hk.2 e.symm)]
 refine ⟨v',w',hr,⟨⟨h0.1,Nat.le_trans h0.2 h4.size⟩,xs++news,⟨?_,?_⟩,by simp [hlen,hln],fun i a b=>?_⟩,h4,h6⟩
 ·rw [mcs_app,List.length_append,hln];exact h3
 ·intro p hp
  rcases List.mem_append.1 hp with hp | hp
  ·exact hvb.2 p hp
  ·exact h5 p hp
 ·by_cases hil:i<l.length
  ·rw [List.getElem_append_left hil,List.getElem_append_left (by omega)]
   obtain ⟨e1,e2,e3⟩:=hin i (by omega) hil
   exact ⟨e1,e2,e3.map (fun _ h=>h) hC⟩
  ·rw [List.getElem_append_right (by omega),List.getElem_append_right (by omega)]
   have e:i - xs.length=i - l.length:=by omega
   simp only [e]
   obtain ⟨e1,e2,e3⟩:=hu (i - l.length) (by simp at a;omega) (by simp at b;omega)
   exact ⟨e1,e2,e3.map (fun _ h=>h) hC⟩
theorem run_mB {w:World} (ty:TypeId) (Z K:Nat) (v:Value) (l:List (List UInt8 × JV)) (hown:MsB w Z K v l) (A:Option Addr) (c:Nat) (us:List (List UInt8 × JV)) (hA:MsC w (Lo Z) A us) (h63:(l.length+us.length)*96≤140737488355328):
  ∃ v' w',(Builtin.append_ #[23,23] ty #[v,.slice A us.length c]).run Tryz.prog w=.ok v' w'∧MsB w' Z K v' (l++us)∧w.grownBy w' v.ownBlock∧(v'.ownBlock=v.ownBlock∨v'.ownBlock=some w.heap.size):=by
 by_cases hne:us=[]
 ·subst hne
  cases A with
  | none=>
   obtain ⟨h0,xs,hvb,hlen,hin⟩:=id hown
   obtain ⟨i,hi,_⟩:=info_parts mb_info
   exact ⟨v,w,run_append_owned_empty K _ ty _ i 6 Tryz.underlying23 hi v _ (mcs xs) hvb.1 c,by rw [List.append_nil];exact hown,⟨rfl,rfl,rfl,Nat.le_refl _,fun _ _ _=>rfl⟩,.inl rfl⟩
  | some ad=>exact run_mBk ty Z K v l hown ad c [] [] rfl (by simp) (fun i h=>absurd h (by simp)) (fun j u hu=>by simp [mcs] at hu) h63
 ·obtain ⟨b,o,B,d,B',d',he,_⟩:=hA 0 (by cases us with | nil=>exact absurd rfl hne | cons _ _=>simp)
  subst he
  obtain ⟨news,hln,h5,hu,hcells⟩:=hA.row
  refine run_mBk ty Z K v l hown ⟨b,o,none⟩ c us news hln h5 hu (fun j u hu=>?_) h63
  rw [show (Addr.mk b o none).add j=⟨b,o+j,none⟩ by
   by_cases h0:j=0
   ·subst h0;simp [Addr.add]
   ·simp [Addr.add,h0]]
  exact hcells j u hu
theorem wpl_mB {ops:Array Oper} {rest:List Oper} {o:Oper} {a:Act} {w:World} {Q:Exit→Act→World→Prop}
  (hgd:o.guard=none) (s x:Operand) (ho:o.op=.call { callee:=.builtin .append,args:=#[s,x],argTypes:=#[23,23] })
  (Z K:Nat) (v:Value) (l:List (List UInt8 × JV)) (hs:a.eval s=v) (hown:MsB w Z K v l) (A:Option Addr) (c n:Nat) (us:List (List UInt8 × JV)) (hx:a.eval x=.slice A n c) (hn:n=us.length) (hA:MsC w (Lo Z) A us) (h63:(l.length+us.length)*96≤140737488355328)
  (h:∀ v' w',MsB w' Z K v' (l++us)→w.grownBy w' v.ownBlock→(v'.ownBlock=v.ownBlock∨v'.ownBlock=some w.heap.size)→wpList Tryz.prog ops Q rest (a.put o.dst v') w'):
  wpList Tryz.prog ops Q (o::rest) a w:=by
 subst hn
 refine wpList_plain hgd fun K2 hK=>?_
 obtain ⟨v',w',hr,h3,h4,h6⟩:=run_mB (w:=w) o.type Z K v l hown A c us hA h63
 unfold Oper.wp execOp
 simp only [ho,resolve,invoke,builtin,Sem.run_bind,Sem.run_pure,Result.andThen_ok,List.map_toArray,List.map_cons,List.map_nil,hs,hx,hr]
 exact hK _ _ (h v' w' h3 h4 (by simpa using h6))
theorem wpl_mB_lit {ops:Array Oper} {rest:List Oper} {o:Oper} {a:Act} {w:World} {Q:Exit→Act→World→Prop} {cs:Array Value} {ad:Addr}
  (hgd:o.guard=none) (s x:Operand) (ho:o.op=.call { callee:=.builtin .append,args:=#[s,x],argTypes:=#[23,23] })
  (Z K:Nat) (v:Value) (l:List (List UInt8 × JV)) (hs:a.eval s=v) (hown:MsB w Z K v l) (nm:List UInt8) (u:JV) (C:Option Addr) (f:Nat) (C':Option Addr) (f':Nat) (hcs:cs=#[.string ⟨nm.toArray⟩,.int .i64 u.kd,.int .i64 u.nm,.string ⟨u.tx.toArray⟩,.slice C u.ls.length f,.slice C' u.ms.length f']) (hnm:nm.length≤140737488355328) (hu:InV w (Lo Z) u (vA u C f C' f')) (hx:a.eval x=.slice (some ad) 1 1) (had:ad=⟨w.heap.size,0,none⟩) (h63:(l.length+1)*96≤140737488355328)
  (h:∀ v' w',MsB w' Z K v' (l++[(nm,u)])→(w.alloc (.cells cs 39)).grownBy w' v.ownBlock→(v'.ownBlock=v.ownBlock∨v'.ownBlock=some (w.heap.size+1))→wpList Tryz.prog ops Q rest (a.put o.dst v') w'):
  wpList Tryz.prog ops Q (o::rest) a (w.alloc (.cells cs 39)):=by
 subst had
 have hal:=(Fr.refl w).alloc (.cells cs 39)
 have h0:=hown.1
 refine wpList_plain hgd fun K2 hK=>?_
 have hb:=Blk.made w cs 39
 obtain ⟨v',w',hr,h3,h4,h6⟩:=run_mBk (w:=w.alloc (.cells cs 39)) o.type Z K v l (hown.keep hal) ⟨w.heap.size,0,none⟩ 1 [(nm,u)] [(nm,vA u C f C' f')] rfl (fun p hp=>by simp at hp;subst hp;exact five_vA _ _ _ _ _)
  (fun i h1 h2=>by
   obtain rfl:i=0:=by simp at h1;omega
   exact ⟨rfl,hnm,hu.map (fun _ h=>h) (fun b o hb=>hal.cell (Nat.lt_of_lt_of_le hb (Nat.le_trans h0.1 h0.2)))⟩)
  (fun j y hy=>by
   have e:mcs [(nm,vA u C f C' f')]=cs.toList:=by subst hcs;simp [mcs,vA,Value.cells]
   rw [e] at hy
   have hj:(Addr.mk w.heap.size 0 none).add j=⟨w.heap.size,j,none⟩:=by
    by_cases h0:j=0
    ·subst h0;simp [Addr.add]
    ·simp [Addr.add,h0]
   rw [hj,hb.cell j]
   simpa using hy) h63
 unfold Oper.wp execOp
 simp only [ho,resolve,invoke,builtin,Sem.run_bind,Sem.run_pure,Result.andThen_ok,List.map_toArray,List.map_cons,List.map_nil,hs,hx,List.length_singleton] at hr ⊢
 simp only [hr]
 exact hK _ _ (h v' w' h3 h4 (by simpa using h6))
theorem MsB.other {w:World} {Z K:Nat} {v:Value} {l:List (List UInt8 × JV)} (h:MsB w Z K v l) {a:Addr} (hv:v.ownBlock≠some a.block) (hZ:Z≤a.block) (u:Value):MsB (w.setCell a u) Z K v l:=by
 obtain ⟨h0,xs,h1,h2,h3⟩:=h
 refine ⟨⟨h0.1,by simpa [World.setCell] using h0.2⟩,xs,⟨ownsRow_setCell_other h1.1 hv u,h1.2⟩,h2,fun i a1 b1=>⟨(h3 i a1 b1).1,(h3 i a1 b1).2.1,(h3 i a1 b1).2.2.map (fun _ h=>h) (fun b o hb=>?_)⟩⟩
 have hb:b<Z:=hb
 unfold World.cell?
 rw [Below.heap_setCell _ _ _ _ (by show b≠a.block;omega)]
theorem msb_fr {w a b:World} {Z K:Nat} {v:Value} {l:List (List UInt8 × JV)} (hf:Fr w a) (hv:MsB a Z K v l) (hK:w.heap.size≤K) (hg:a.grownBy b v.ownBlock):Fr w b:=
 Below.grown hf hg hf.size (fun k hk=>by have:=(hv.own_lt hk).1;omega)
/- The walks of slices.Clone at members, tree.members, tree.With. -/

theorem results_cv {fn:Func} {p:Tmp} {ty:TypeId} (hf:fn.results=#[.cell p ty]) (hT:ty=25) (w:World) (X:Nat) {tmps:Array Value} (h2:tmps.getD p undef=.pointer (some ⟨X,0,none⟩))
  (v0 v1 v2 v3 v4:Value) (hV:Blk w X #[v0,v1,v2,v3,v4] 25):
  (results fn tmps).run Tryz.prog w=.ok (.agg #[v0,v1,v2,v3,v4]) w:=by
 subst hT
 have a0:=hV.cell 0
 have a1:=hV.cell 1
 have a2:=hV.cell 2
 have a3:=hV.cell 3
 have a4:=hV.cell 4
 simp at h2 a0 a1 a2 a3 a4
 simp [results,hf,h2,go_sem,a0,a1,a2,a3,a4]
namespace Pt
def withM:List (List UInt8 × JV)→List UInt8→JV→List (List UInt8 × JV)
 | [],s,x=>[(s,x)]
 | p::m,s,x=>if p.1=s then (s,x)::m else p::withM m s x
def with_ (v:JV) (s:List UInt8) (x:JV):JV:=JV.mapV (withM (if v.kd=6 then v.ms else []) s x)
theorem withM_none:∀ {m:List (List UInt8 × JV)} {s:List UInt8} (x:JV),placeM m s=none→withM m s x=m++[(s,x)]
 | [],s,x,_=>rfl
 | p::m,s,x,h=>by
  unfold placeM at h
  split at h
  ·cases h
  ·rename_i hp
   unfold withM
   rw [if_neg hp,withM_none x (by cases hq:placeM m s with | none=>rfl | some k=>rw [hq] at h;cases h)]
   rfl
theorem withM_some:∀ {m:List (List UInt8 × JV)} {s:List UInt8} (x:JV) {i:Nat},placeM m s=some i → ∃ h:i<m.length,m[i].1=s∧withM m s x=m.set i (s,x)
 | [],s,x,i,h=>by cases h
 | p::m,s,x,i,h=>by
  unfold placeM at h
  split at h
  ·rename_i hp
   obtain rfl:=Option.some.inj h
   refine ⟨by simp,hp,?_⟩
   unfold withM
   rw [if_pos hp];rfl
  ·rename_i hp
   cases hq:placeM m s with
   | none=>rw [hq] at h;cases h
   | some k=>
    rw [hq] at h
    obtain rfl:=Option.some.inj h
    obtain ⟨h1,h2,h3⟩:=withM_some x hq
    refine ⟨by simp;exact h1,by simpa using h2,?_⟩
    unfold withM
    rw [if_neg hp,h3];rfl
end Pt
theorem MsB.empty (w:World) {Z:Nat} (hZ:Z≤w.heap.size):MsB (w.alloc (.cells #[] 39)) Z w.heap.size (.slice (some ⟨w.heap.size,0,none⟩) 0 0) []:=
 ⟨⟨hZ,by simp⟩,[],⟨World.ownsRow_lit (base:=w.heap.size) (size:=6) (e:=39) w #[] 0 (Nat.le_refl _) (by unfold maxLen;omega) (by simp),by simp⟩,rfl,fun i h=>absurd h (by simp)⟩

theorem clone_m_is (m:List (List UInt8 × JV)) (A:Option Addr) (c:Nat) (w:World) (Z:Nat) (hZ:Z≤w.heap.size) (h:MsC w (Lo Z) A m) (hl:m.length*96≤140737488355328):
  Calls Tryz.prog 36 #[.slice A m.length c] w fun e w'=>∃ v',e=.returned v'∧MsB w' Z w.heap.size v' m∧Fr w w':=by
 have HM:=Lib.hid h
 have hl':(m.length:Int)≤140737488355328:=by omega
 cases A with
 | none=>
  have hm:m=[]:=by
   cases m with
   | nil=>rfl
   | cons p m=>obtain ⟨_,_,_,_,_,_,he,_⟩:=h 0 (by simp);cases he
  subst hm
  have hq:=fun W=>Lib.run_eql_slice_nil (P:=Tryz.prog) W 23 39 none 0 c 0 0 Tryz.underlying23
  clear h
  go_enter Tryz.func36,Tryz.ntmps36
  go_wp2_with fail
  go_ret
  exact ⟨_,rfl,MsB.none_ w ⟨hZ,Nat.le_refl _⟩,Fr.refl w⟩
 | some ad=>
  have hk:(0+m.length)*96≤140737488355328:=by omega
  have HE:Hid (MsB (w.alloc (.cells #[] 39)) Z w.heap.size (.slice (some ⟨w.heap.size,0,none⟩) 0 0) []):=MsB.empty w hZ
  have HC:Hid (MsC (w.alloc (.cells #[] 39)) (Lo Z) (some ad) m):=h.keep hZ ((Fr.refl w).alloc _)
  have hq:=fun W=>Lib.run_eql_slice_nil (P:=Tryz.prog) W 23 39 (some ad) m.length c 0 0 Tryz.underlying23
  clear h
  go_enter Tryz.func36,Tryz.ntmps36
  go_wp2_with (at_builtin;refine wpl_mB rfl (.tmp 5) (.tmp 6) rfl Z w.heap.size _ [] rfl HE.out (some ad) c m.length m rfl rfl HC.out (by simpa using hk) ?_;intro v4 w4 hv4 hg4 _;have hv4:MsB w4 Z w.heap.size v4 m:=hv4;obtain ⟨a4,c4,rfl⟩:=hv4.is_slice;have HF4:=Lib.hid (msb_fr ((Fr.refl w).alloc _) HE.out (Nat.le_refl _) hg4);have HV4:=Lib.hid hv4;clear hv4 hg4)
  go_ret
  exact ⟨_,rfl,HV4.out,HF4.out⟩

theorem tmembers_is (v:JV) (B:Option Addr) (d:Nat) (B':Option Addr) (d':Nat) (w:World) (Z:Nat) (hZ:Z≤w.heap.size) (h:InV w (Lo Z) v (vA v B d B' d')) (hl:v.ms.length*96≤140737488355328):
  Calls Tryz.prog 41 #[.agg #[.int .i64 v.kd,.int .i64 v.nm,.string ⟨v.tx.toArray⟩,.slice B v.ls.length d,.slice B' v.ms.length d']] w fun e w'=>∃ v' K,e=.returned v'∧w.heap.size≤K∧MsB w' Z K v' (if v.kd=6 then v.ms else [])∧Fr w w':=by
 obtain ⟨A,c,A',c',he,_,hms⟩:=h.open_
 have hA:B'=A':=by obtain ⟨_,_,_,_,e4⟩:=five he;injection e4
 subst hA
 have HC:Hid (∀ W,Fr w W→Calls Tryz.prog 36 #[.slice B' v.ms.length d'] W fun e w'=>∃ v',e=.returned v'∧MsB w' Z W.heap.size v' v.ms∧Fr W w'):=Lib.hid (fun W hW=>clone_m_is v.ms B' d' W Z (Nat.le_trans hZ hW.size) (hms.keep hZ hW) hl)
 have HF0:Hid (Fr w (w.alloc (.cells #[.int .i64 v.kd,.int .i64 v.nm,.string ⟨v.tx.toArray⟩,.slice B v.ls.length d,.slice B' v.ms.length d'] 25))):=(Fr.refl w).alloc _
 clear h he hms
 by_cases h6:v.kd=6
 ·have q6:(v.kd != 6)=false:=by rw [bne_eq_false_iff_eq];exact h6
  rw [if_pos h6]
  clear h6
  go_enter Tryz.func41,Tryz.ntmps41
  go_wp2_with (go_at_call 36;refine (HC.out _ HF0.out).mono ?_;rintro e w1 ⟨v1,rfl,hv1,hf⟩;obtain ⟨a1,c1,rfl⟩:=hv1.is_slice;have HV1:=Lib.hid hv1;have HF1:=Lib.hid hf;clear hv1 hf)
  go_ret
  exact ⟨_,_,rfl,Nat.le_succ_of_le (Nat.le_refl _),by simpa using HV1.out,HF0.out.trans HF1.out⟩
 ·obtain ⟨_,q6⟩:=ikind h6
  rw [if_neg h6]
  clear h6
  go_enter Tryz.func41,Tryz.ntmps41
  go_wp2_with fail
  go_ret
  exact ⟨_,w.heap.size,rfl,Nat.le_refl _,MsB.none_ _ ⟨hZ,by simp⟩,HF0.out⟩

theorem with_new (v x:JV) (B:Option Addr) (d:Nat) (B':Option Addr) (d':Nat) (C:Option Addr) (f:Nat) (C':Option Addr) (f':Nat) (s:List UInt8) (w:World) (Z:Nat) (hZ:Z≤w.heap.size) (hv:InV w (Lo Z) v (vA v B d B' d')) (hx:InV w (Lo Z) x (vA x C f C' f')) (hl:v.ms.length*96≤140737488300000) (hs:s.length≤140737488355328) (hp:Pt.placeI v s = -1):
  Calls Tryz.prog 18 #[.agg #[.int .i64 v.kd,.int .i64 v.nm,.string ⟨v.tx.toArray⟩,.slice B v.ls.length d,.slice B' v.ms.length d'],.string ⟨s.toArray⟩,.agg #[.int .i64 x.kd,.int .i64 x.nm,.string ⟨x.tx.toArray⟩,.slice C x.ls.length f,.slice C' x.ms.length f']] w fun e w'=>∃ (D:Option Addr) (g:Nat),e=.returned (.agg #[.int .i64 6,.int .i64 0,.string ⟨#[]⟩,.slice none 0 0,.slice D ((if v.kd=6 then v.ms else [])++[(s,x)]).length g])∧InV w' (Ne Z w w') (JV.mapV ((if v.kd=6 then v.ms else [])++[(s,x)])) (.agg #[.int .i64 6,.int .i64 0,.string ⟨#[]⟩,.slice none 0 0,.slice D ((if v.kd=6 then v.ms else [])++[(s,x)]).length g])∧Fr w w':=by
 obtain ⟨mm,hmm⟩:∃ mm,(if v.kd=6 then v.ms else [])=mm:=⟨_,rfl⟩
 have hml:mm.length*96≤140737488300000:=by
  rw [← hmm]
  split
  all_goals first | exact hl | (simp;done) | omega
 have HME:Hid (∀ W,Fr w W→Calls Tryz.prog 41 #[.agg #[.int .i64 v.kd,.int .i64 v.nm,.string ⟨v.tx.toArray⟩,.slice B v.ls.length d,.slice B' v.ms.length d']] W fun e w'=>∃ v' K,e=.returned v'∧W.heap.size≤K∧MsB w' Z K v' mm∧Fr W w'):=Lib.hid (fun W hW=>by rw [← hmm];exact tmembers_is v B d B' d' W Z (Nat.le_trans hZ hW.size) (hv.keep hZ hW) (by omega))
 have HPL:Hid (∀ W,Fr w W→Calls Tryz.prog 42 #[.agg #[.int .i64 v.kd,.int .i64 v.nm,.string ⟨v.tx.toArray⟩,.slice B v.ls.length d,.slice B' v.ms.length d'],.string ⟨s.toArray⟩] W fun e w'=>e=.returned (.int .i64 (Pt.placeI v s))∧Fr W w'):=Lib.hid (fun W hW=>place_is v B d B' d' s W ((hv.keep hZ hW).lo (Nat.le_trans hZ hW.size)))
 have hF3:Fr w (((w.alloc (.cells #[.int .i64 v.kd,.int .i64 v.nm,.string ⟨v.tx.toArray⟩,.slice B v.ls.length d,.slice B' v.ms.length d'] 25)).alloc (.cells #[.int .i64 x.kd,.int .i64 x.nm,.string ⟨x.tx.toArray⟩,.slice C x.ls.length f,.slice C' x.ms.length f'] 25)).alloc (.cells #[.int .i64 0,.int .i64 0,.string ⟨#[]⟩,.slice none 0 0,.slice none 0 0] 25)):=(((Fr.refl w).alloc _).alloc _).alloc _
 have hB3:Blk (((w.alloc (.cells #[.int .i64 v.kd,.int .i64 v.nm,.string ⟨v.tx.toArray⟩,.slice B v.ls.length d,.slice B' v.ms.length d'] 25)).alloc (.cells #[.int .i64 x.kd,.int .i64 x.nm,.string ⟨x.tx.toArray⟩,.slice C x.ls.length f,.slice C' x.ms.length f'] 25)).alloc (.cells #[.int .i64 0,.int .i64 0,.string ⟨#[]⟩,.slice none 0 0,.slice none 0 0] 25)) w.heap.size #[.int .i64 v.kd,.int .i64 v.nm,.string ⟨v.tx.toArray⟩,.slice B v.ls.length d,.slice B' v.ms.length d'] 25:=((Blk.made w _ _).keep ((Fr.refl _).alloc _)).keep ((Fr.refl _).alloc _)
 have hX3:Blk (((w.alloc (.cells #[.int .i64 v.kd,.int .i64 v.nm,.string ⟨v.tx.toArray⟩,.slice B v.ls.length d,.slice B' v.ms.length d'] 25)).alloc (.cells #[.int .i64 x.kd,.int .i64 x.nm,.string ⟨x.tx.toArray⟩,.slice C x.ls.length f,.slice C' x.ms.length f'] 25)).alloc (.cells #[.int .i64 0,.int .i64 0,.string ⟨#[]⟩,.slice none 0 0,.slice none 0 0] 25)) (w.heap.size+1) #[.int .i64 x.kd,.int .i64 x.nm,.string ⟨x.tx.toArray⟩,.slice C x.ls.length f,.slice C' x.ms.length f'] 25:=(boxz (Blk.made (w.alloc _) _ _)).keep ((Fr.refl _).alloc _)
 have hZ3:Blk (((w.alloc (.cells #[.int .i64 v.kd,.int .i64 v.nm,.string ⟨v.tx.toArray⟩,.slice B v.ls.length d,.slice B' v.ms.length d'] 25)).alloc (.cells #[.int .i64 x.kd,.int .i64 x.nm,.string ⟨x.tx.toArray⟩,.slice C x.ls.length f,.slice C' x.ms.length f'] 25)).alloc (.cells #[.int .i64 0,.int .i64 0,.string ⟨#[]⟩,.slice none 0 0,.slice none 0 0] 25)) (w.heap.size+1+1) #[.int .i64 0,.int .i64 0,.string ⟨#[]⟩,.slice none 0 0,.slice none 0 0] 25:=boxy (Blk.made ((w.alloc _).alloc _) _ _)
 have HV:=Lib.hid hv
 have HX:=Lib.hid hx
 rw [hmm]
 have HPI:=Lib.hid hp
 have hk97:(mm.length+1)*96≤140737488355328:=by omega
 have hm63:(mm.length:Int)≤140737488355328:=by omega
 clear hv hx hp hmm
 go_enter Tryz.func18,Tryz.ntmps18
 go_upto_region 1 with fail
 generalize (((w.alloc (.cells #[.int .i64 v.kd,.int .i64 v.nm,.string ⟨v.tx.toArray⟩,.slice B v.ls.length d,.slice B' v.ms.length d'] 25)).alloc (.cells #[.int .i64 x.kd,.int .i64 x.nm,.string ⟨x.tx.toArray⟩,.slice C x.ls.length f,.slice C' x.ms.length f'] 25)).alloc (.cells #[.int .i64 0,.int .i64 0,.string ⟨#[]⟩,.slice none 0 0,.slice none 0 0] 25))=W0 at hF3 hB3 hX3 hZ3 ⊢
 have HF3:=Lib.hid hF3
 have HB3:=Lib.hid hB3
 have HX3:=Lib.hid hX3
 have HZ3:=Lib.hid hZ3
 have hz1:w.heap.size+1+1<W0.heap.size:=hZ3.lt
 obtain ⟨⟨a0,a1,a2,a3,a4⟩,_⟩:=box5 hB3
 clear hF3 hB3 hX3 hZ3
 go_upto_region 2 with (go_at_call 41;refine (HME.out _ HF3.out).mono ?_;rintro e w1 ⟨v1,K,rfl,hK,hv1,hf⟩;obtain ⟨sa,sc,rfl⟩:=hv1.is_slice;have HV1:=Lib.hid hv1;have HF1:=Lib.hid hf;clear hv1 hf)
 have hw5:=HF1.out.alloc (.cells #[.int .i64 6,.int .i64 0,.string ⟨#[]⟩,.slice none 0 0,(.slice sa mm.length sc)] 25)
 have hb5:=Blk.made w1 #[.int .i64 6,.int .i64 0,.string ⟨#[]⟩,.slice none 0 0,(.slice sa mm.length sc)] 25
 have hv5:=HV1.out.keep ((Fr.refl w1).alloc (.cells #[.int .i64 6,.int .i64 0,.string ⟨#[]⟩,.slice none 0 0,(.slice sa mm.length sc)] 25))
 have hk1:=HV1.out.1
 have hx7:w1.heap.size<(w1.alloc (.cells #[.int .i64 6,.int .i64 0,.string ⟨#[]⟩,.slice none 0 0,(.slice sa mm.length sc)] 25)).heap.size:=by simp
 have hf1:=HF1.out.size
 generalize (w1.alloc (.cells #[.int .i64 6,.int .i64 0,.string ⟨#[]⟩,.slice none 0 0,(.slice sa mm.length sc)] 25))=W5 at hw5 hb5 hv5 hx7 ⊢
 have hown7:(Value.slice sa mm.length sc).ownBlock≠some w1.heap.size:=fun e=>by have:=(HV1.out.own_lt e).2;omega
 generalize w1.heap.size=X7 at hb5 hx7 hk1 hf1 hown7 ⊢
 have HF5:=Lib.hid hw5
 have HB5:=Lib.hid hb5
 have HV5:=Lib.hid hv5
 obtain ⟨⟨c0,c1,c2,c3,c4⟩,_⟩:=box5 (HB3.out.keep hw5)
 clear hw5 hb5 hv5 a0 a1 a2 a3 a4
 go_wp2_with (first
  | (at_builtin;have hX7:InV w2 (Lo Z) x (vA x C f C' f'):=HX.out.keep hZ (HF3.out.trans HF7.out);refine wpl_mB_lit rfl (.tmp 25) (.tmp 29) rfl Z K _ mm rfl HV7.out s x C f C' f' rfl hs hX7 rfl (by simp) hk97 ?_;intro v4 w4 hv4 hg4 ho4;obtain ⟨b4,k4,rfl⟩:=hv4.is_slice2 (n:=1) rfl;have HV4:=Lib.hid hv4;have HG4:=Lib.hid hg4;have HO4:=Lib.hid ho4;have HS4:=Lib.hid hg4.size;have hy4:Blk w4 X7 _ _:=(hg4.block _ (HB7.out.keep ((Fr.refl _).alloc _)).lt (fun e=>hown7 e.symm)).trans (HB7.out.keep ((Fr.refl _).alloc _));obtain ⟨⟨zz0,zz1,zz2,zz3,zz4⟩,zg0,zg1,zg2,zg3,zg4⟩:=box5 hy4;have HY4:=Lib.hid hy4;have hfr4:Fr W0 w4:=msb_fr (HF7.out.alloc _) (HV7.out.keep ((Fr.refl _).alloc _)) hK hg4;have hz4:=HZ3.out.keep hfr4;obtain ⟨⟨t0,t1,t2,t3,t4⟩,tf0,tf1,tf2,tf3,tf4⟩:=box5 hz4;have HZ4:=Lib.hid hz4;have HFR4:=Lib.hid hfr4;clear hv4 hg4 hX7 hy4 hz4 hfr4 ho4)
  | (go_at_call 42;refine (HPL.out _ (HF3.out.trans HF5.out)).mono ?_;rw [HPI.out];rintro e w2 ⟨rfl,hf⟩;have hb7:=HB5.out.keep hf;obtain ⟨⟨p0,p1,p2,p3,p4⟩,f0,f1,f2,f3,f4⟩:=box5 hb7;have HB7:=Lib.hid hb7;obtain ⟨⟨x0,x1,x2,x3,x4⟩,_⟩:=box5 (HX3.out.keep (HF5.out.trans hf));have hzz:=HZ3.out.keep (HF5.out.trans hf);obtain ⟨⟨z0,z1,z2,z3,z4⟩,g0,g1,g2,g3,g4⟩:=box5 hzz;have HZ7:=Lib.hid hzz;have HV7:=Lib.hid (HV5.out.keep hf);have HF7:=Lib.hid (HF5.out.trans hf);clear hb7 hzz hf))
 have hX72:X7<w2.heap.size:=HB7.out.lt
 have hz72:w.heap.size+1+1<w2.heap.size:=HZ7.out.lt
 have hon4:∀ k,k=X7∨k=w.heap.size+1+1→(Value.slice b4 (mm.length+1) k4).ownBlock≠some k:=fun k hk e=>by
  rcases HO4.out with h6 | h6
  ·rw [h6] at e
   rcases hk with rfl | rfl
   ·exact hown7 e
   ·have:=(HV7.out.own_lt e).1;have:=hK;omega
  ·rw [h6] at e
   have:=Option.some.inj e
   omega
 have hm1:=HV4.out.other (a:=⟨X7,4,none⟩) (hon4 _ (.inl rfl)) (by show Z≤X7;have:=HV7.out.1;omega) (.slice b4 (mm.length+1) k4)
 have hR:∀ j,(Value.slice b4 (mm.length+1) k4).ownBlock≠some (Addr.mk (w.heap.size+1+1) j none).block:=fun j=>hon4 _ (.inr rfl)
 have hZR:∀ j,Z≤(Addr.mk (w.heap.size+1+1) j none).block:=fun j=>by show Z≤w.heap.size+1+1;omega
 have hm2:=((((hm1.other (hR 0) (hZR 0) (.int .i64 6)).other (hR 1) (hZR 1) (.int .i64 0)).other (hR 2) (hZR 2) (.string ⟨#[]⟩)).other (hR 3) (hZR 3) (.slice none 0 0)).other (hR 4) (hZR 4) (.slice b4 (mm.length+1) k4)
 have hfin:=(HF3.out.trans (HFR4.out.setCell (p:=⟨X7,4,none⟩) (by show W0.heap.size≤X7;have:=hf1;omega) (.slice b4 (mm.length+1) k4))).put5 (X:=w.heap.size+1+1) (by omega) (.int .i64 6) (.int .i64 0) (.string ⟨#[]⟩) (.slice none 0 0) (.slice b4 (mm.length+1) k4)
 refine bodyPost_ret (results_cv (by rfl) rfl _ (w.heap.size+1+1) (by rfl) _ _ _ _ _ (set5 (HZ4.out.other (by show X7≠w.heap.size+1+1;have:=hf1;have:=hz1;omega) _))) rfl ?_
 have hlen:(mm++[(s,x)]).length=mm.length+1:=by simp
 refine ⟨b4,k4,by rw [hlen],?_,hfin⟩
 rw [hlen]
 exact (hm2.inV (by rw [hlen];omega)).more (fun b hb=>by
  rcases hb with hb | hb
  ·exact .inl hb
  ·exact .inr ⟨by have:=HF3.out.size;omega,hb.2⟩)
/- The walk of tree.With at a name that is there; tree.With. -/

theorem MsB.open_ {w:World} {Z K n c:Nat} {A:Option Addr} {m:List (List UInt8 × JV)} (h:MsB w Z K (.slice A n c) m) {i:Nat} (hi:i<m.length):
  ∃ g,A=some ⟨g,0,none⟩∧K≤g∧g<w.heap.size∧(∀ k,k<m.length → ∀ j,j<6 → ∃ u,w.cell? ⟨g,k*6+j,none⟩=some u) ∧ ∀ o,w.frozen? ⟨g,o,none⟩=false:=by
 obtain ⟨_,xs,hvb,hlen,_⟩:=h
 rcases hvb.1.2 with ⟨_,hn⟩ | ⟨g,cap,cur,hv,hb,hg,hc,hm,hs,ht⟩
 ·exfalso;omega
 ·injection hv with hA _ _
  refine ⟨g,hA,hb,(Array.getElem?_eq_some_iff.1 hg).1,fun k hk j hj=>?_,fun o=>by simp [World.frozen?,hg]⟩
  have hx:k<xs.length:=by omega
  obtain ⟨a,b,d,e,f,h5,_⟩:=hvb.2 _ (List.getElem_mem hx)
  have hlt:j<(Value.string ⟨xs[k].1.toArray⟩::xs[k].2.cells.toList).length:=by rw [h5];simp [Value.cells];omega
  obtain ⟨u,hu⟩:∃ u,(Value.string ⟨xs[k].1.toArray⟩::xs[k].2.cells.toList)[j]? = some u:=⟨_,List.getElem?_eq_getElem hlt⟩
  refine ⟨u,?_⟩
  have hm2:=mcs_at hvb.2 hx hj
  rw [hu] at hm2
  rw [cell_of_row w g _ cur _ (0,0) hg]
  rw [← ht,List.getElem?_take] at hm2
  split at hm2
  ·first | exact hm2 | (rw [Array.getElem?_toList] at hm2;exact hm2) | simpa using hm2
  ·cases hm2

theorem ad_ne {g o a b:Nat} (h:a≠b):(Addr.mk g (o+a) none)≠⟨g,o+b,none⟩:=fun e=>by injection e;omega
theorem put5g_at (w:World) (g o:Nat) (u0 u1 u2 u3 u4:Value) (he:∀ j,j<5 → ∃ u,w.cell? ⟨g,o+j,none⟩=some u):
  (((((w.setCell ⟨g,o,none⟩ u0).setCell ⟨g,o+1,none⟩ u1).setCell ⟨g,o+2,none⟩ u2).setCell ⟨g,o+3,none⟩ u3).setCell ⟨g,o+4,none⟩ u4).cell? ⟨g,o,none⟩=some u0∧(((((w.setCell ⟨g,o,none⟩ u0).setCell ⟨g,o+1,none⟩ u1).setCell ⟨g,o+2,none⟩ u2).setCell ⟨g,o+3,none⟩ u3).setCell ⟨g,o+4,none⟩ u4).cell? ⟨g,o+1,none⟩=some u1∧(((((w.setCell ⟨g,o,none⟩ u0).setCell ⟨g,o+1,none⟩ u1).setCell ⟨g,o+2,none⟩ u2).setCell ⟨g,o+3,none⟩ u3).setCell ⟨g,o+4,none⟩ u4).cell? ⟨g,o+2,none⟩=some u2∧(((((w.setCell ⟨g,o,none⟩ u0).setCell ⟨g,o+1,none⟩ u1).setCell ⟨g,o+2,none⟩ u2).setCell ⟨g,o+3,none⟩ u3).setCell ⟨g,o+4,none⟩ u4).cell? ⟨g,o+3,none⟩=some u3∧(((((w.setCell ⟨g,o,none⟩ u0).setCell ⟨g,o+1,none⟩ u1).setCell ⟨g,o+2,none⟩ u2).setCell ⟨g,o+3,none⟩ u3).setCell ⟨g,o+4,none⟩ u4).cell? ⟨g,o+4,none⟩=some u4:=by
 obtain ⟨e0,h0⟩:=he 0 (by omega)
 obtain ⟨e1,h1⟩:=he 1 (by omega)
 obtain ⟨e2,h2⟩:=he 2 (by omega)
 obtain ⟨e3,h3⟩:=he 3 (by omega)
 obtain ⟨e4,h4⟩:=he 4 (by omega)
 have n10:(Addr.mk g (o+1) none)≠⟨g,o,none⟩:=ad_ne (a:=1) (b:=0) (by omega)
 have n20:(Addr.mk g (o+2) none)≠⟨g,o,none⟩:=ad_ne (a:=2) (b:=0) (by omega)
 have n30:(Addr.mk g (o+3) none)≠⟨g,o,none⟩:=ad_ne (a:=3) (b:=0) (by omega)
 have n40:(Addr.mk g (o+4) none)≠⟨g,o,none⟩:=ad_ne (a:=4) (b:=0) (by omega)
 have n:∀ a b,a≠b→(Addr.mk g (o+a) none)≠⟨g,o+b,none⟩:=fun a b h=>ad_ne h
 refine ⟨?_,?_,?_,?_,?_⟩
 ·rw [World.cell?_setCell_other _ _ _ _ n40,World.cell?_setCell_other _ _ _ _ n30,World.cell?_setCell_other _ _ _ _ n20,World.cell?_setCell_other _ _ _ _ n10]
  exact World.cell?_setCell_same _ _ _ h0
 ·rw [World.cell?_setCell_other _ _ _ _ (n 4 1 (by omega)),World.cell?_setCell_other _ _ _ _ (n 3 1 (by omega)),World.cell?_setCell_other _ _ _ _ (n 2 1 (by omega))]
  exact World.cell?_setCell_same _ _ _ (by rw [World.cell?_setCell_other _ _ _ _ n10.symm];exact h1)
 ·rw [World.cell?_setCell_other _ _ _ _ (n 4 2 (by omega)),World.cell?_setCell_other _ _ _ _ (n 3 2 (by omega))]
  exact World.cell?_setCell_same _ _ _ (by rw [World.cell?_setCell_other _ _ _ _ (n 1 2 (by omega)),World.cell?_setCell_other _ _ _ _ n20.symm];exact h2)
 ·rw [World.cell?_setCell_other _ _ _ _ (n 4 3 (by omega))]
  exact World.cell?_setCell_same _ _ _ (by rw [World.cell?_setCell_other _ _ _ _ (n 2 3 (by omega)),World.cell?_setCell_other _ _ _ _ (n 1 3 (by omega)),World.cell?_setCell_other _ _ _ _ n30.symm];exact h3)
 ·exact World.cell?_setCell_same _ _ _ (by rw [World.cell?_setCell_other _ _ _ _ (n 3 4 (by omega)),World.cell?_setCell_other _ _ _ _ (n 2 4 (by omega)),World.cell?_setCell_other _ _ _ _ (n 1 4 (by omega)),World.cell?_setCell_other _ _ _ _ n40.symm];exact h4)
theorem put5g_other (w:World) (g o:Nat) (u0 u1 u2 u3 u4:Value) (q:Addr) (hq:∀ j,j<5→(Addr.mk g (o+j) none)≠q):(((((w.setCell ⟨g,o,none⟩ u0).setCell ⟨g,o+1,none⟩ u1).setCell ⟨g,o+2,none⟩ u2).setCell ⟨g,o+3,none⟩ u3).setCell ⟨g,o+4,none⟩ u4).cell? q=w.cell? q:=by
 rw [World.cell?_setCell_other _ _ _ _ (hq 4 (by omega)),World.cell?_setCell_other _ _ _ _ (hq 3 (by omega)),World.cell?_setCell_other _ _ _ _ (hq 2 (by omega)),World.cell?_setCell_other _ _ _ _ (hq 1 (by omega)),World.cell?_setCell_other _ _ _ _ (show (Addr.mk g o none)≠q from hq 0 (by omega))]
theorem MsB.setInV {w:World} {Z K g c:Nat} {m:List (List UInt8 × JV)} (h:MsB w Z K (.slice (some ⟨g,0,none⟩) m.length c) m) {i:Nat} (hi:i<m.length) (h63:m.length≤140737488355328) {x:JV} {C:Option Addr} {f:Nat} {C':Option Addr} {f':Nat} (hx:InV w (Lo Z) x (vA x C f C' f')) (s:List UInt8) (hs:m[i].1=s):
  InV (((((w.setCell ⟨g,i*6+1,none⟩ (.int .i64 x.kd)).setCell ⟨g,i*6+1+1,none⟩ (.int .i64 x.nm)).setCell ⟨g,i*6+1+2,none⟩ (.string ⟨x.tx.toArray⟩)).setCell ⟨g,i*6+1+3,none⟩ (.slice C x.ls.length f)).setCell ⟨g,i*6+1+4,none⟩ (.slice C' x.ms.length f')) (fun b=>b<Z∨(K≤b∧b<w.heap.size)) (JV.mapV (m.set i (s,x))) (.agg #[.int .i64 6,.int .i64 0,.string ⟨#[]⟩,.slice none 0 0,.slice (some ⟨g,0,none⟩) (m.set i (s,x)).length c]):=by
 have hop:=h.open_ hi
 obtain ⟨h0,xs,hvb,hlen,hin⟩:=h
 obtain ⟨g1,hg1,hgK,hgl,hgc,_⟩:=hop
 have hgg:g1=g:=by injection hg1 with hg1;injection hg1 with e _ _;exact e.symm
 subst hgg
 have hcells:∀ j u,(mcs xs)[j]? = some u→w.cell? ⟨g1,j,none⟩=some u:=by
  rcases hvb.form with ⟨e,_⟩ | ⟨g',cap,e,_,_,hc⟩
  ·injection e with e _ _;cases e
  ·injection e with e _ _
   injection e with e
   injection e with e _ _
   rw [e];exact hc
 have hat:=put5g_at w g1 (i*6+1) (.int .i64 x.kd) (.int .i64 x.nm) (.string ⟨x.tx.toArray⟩) (.slice C x.ls.length f) (.slice C' x.ms.length f') (fun j hj=>by
  have:=hgc i hi (1+j) (by omega)
  rwa [show i*6+(1+j)=i*6+1+j by omega] at this)
 have hot:=put5g_other w g1 (i*6+1) (.int .i64 x.kd) (.int .i64 x.nm) (.string ⟨x.tx.toArray⟩) (.slice C x.ls.length f) (.slice C' x.ms.length f')
 generalize (((((w.setCell ⟨g1,i*6+1,none⟩ (.int .i64 x.kd)).setCell ⟨g1,i*6+1+1,none⟩ (.int .i64 x.nm)).setCell ⟨g1,i*6+1+2,none⟩ (.string ⟨x.tx.toArray⟩)).setCell ⟨g1,i*6+1+3,none⟩ (.slice C x.ls.length f)).setCell ⟨g1,i*6+1+4,none⟩ (.slice C' x.ms.length f'))=W at hat hot ⊢
 have hlow:∀ b o,Lo Z b→W.cell? ⟨b,o,none⟩=w.cell? ⟨b,o,none⟩:=fun b o hb=>hot _ (fun j _ e=>by
  injection e with e _ _
  have hb:b<Z:=hb
  omega)
 have hsame:∀ k j,k≠i→j<6→W.cell? ⟨g1,0+k*6+j,none⟩=w.cell? ⟨g1,k*6+j,none⟩:=fun k j hk hj=>by
  rw [Nat.zero_add]
  exact hot _ (fun j' hj' e=>by injection e;omega)
 refine InV.ofMap (.inr ⟨hgK,hgl⟩) (by simpa using h63) (fun k hk=>?_)
 have hkm:k<m.length:=by simpa using hk
 have hkx:k<xs.length:=by omega
 obtain ⟨e1,e2,e3⟩:=hin k hkx hkm
 have hname:∀ k (hk:k<xs.length),w.cell? ⟨g1,k*6+0,none⟩=some (.string ⟨xs[k].1.toArray⟩):=fun k hk=>hcells _ _ (by rw [mcs_at hvb.2 hk (by omega)];rfl)
 by_cases hki:i=k
 ·subst hki
  rw [List.getElem_set_self]
  refine ⟨by show s.length≤_;rw [← hs];exact e2,.int .i64 x.kd,.int .i64 x.nm,.string ⟨x.tx.toArray⟩,.slice C x.ls.length f,.slice C' x.ms.length f',?_,?_,?_,?_,?_,?_,?_⟩
  ·rw [Nat.zero_add,hot _ (fun j' hj' e=>by injection e;omega)]
   have:=hname i hkx
   rw [e1,hs] at this
   exact this
  ·rw [Nat.zero_add];exact hat.1
  ·rw [Nat.zero_add];exact hat.2.1
  ·rw [Nat.zero_add];exact hat.2.2.1
  ·rw [Nat.zero_add];exact hat.2.2.2.1
  ·rw [Nat.zero_add];exact hat.2.2.2.2
  ·exact hx.map (fun b hb=>.inl hb) hlow
 ·rw [List.getElem_set_ne hki]
  obtain ⟨a,b,d,e,f,h5,_⟩:=hvb.2 _ (List.getElem_mem hkx)
  have hq:∀ j u,j<6→(Value.string ⟨xs[k].1.toArray⟩::xs[k].2.cells.toList)[j]? = some u→W.cell? ⟨g1,0+k*6+j,none⟩=some u:=fun j u hj hu=>by
   rw [hsame k j (fun e=>hki e.symm) hj]
   exact hcells _ _ (by rw [mcs_at hvb.2 hkx hj];exact hu)
  rw [h5] at hq e3
  refine ⟨e2,a,b,d,e,f,?_,hq 1 a (by omega) rfl,hq 2 b (by omega) rfl,hq 3 d (by omega) rfl,hq 4 e (by omega) rfl,hq 5 f (by omega) rfl,e3.map (fun b hb=>.inl hb) hlow⟩
  have:=hq 0 _ (by omega) rfl
  rw [e1] at this
  exact this

theorem with_old (v x:JV) (B:Option Addr) (d:Nat) (B':Option Addr) (d':Nat) (C:Option Addr) (f:Nat) (C':Option Addr) (f':Nat) (s:List UInt8) (w:World) (Z:Nat) (hZ:Z≤w.heap.size) (hv:InV w (Lo Z) v (vA v B d B' d')) (hx:InV w (Lo Z) x (vA x C f C' f')) (hl:v.ms.length*96≤140737488300000) (hs:s.length≤140737488355328) (i:Nat) (h6:v.kd=6) (hp:Pt.placeM v.ms s=some i):
  Calls Tryz.prog 18 #[.agg #[.int .i64 v.kd,.int .i64 v.nm,.string ⟨v.tx.toArray⟩,.slice B v.ls.length d,.slice B' v.ms.length d'],.string ⟨s.toArray⟩,.agg #[.int .i64 x.kd,.int .i64 x.nm,.string ⟨x.tx.toArray⟩,.slice C x.ls.length f,.slice C' x.ms.length f']] w fun e w'=>∃ (D:Option Addr) (g:Nat),e=.returned (.agg #[.int .i64 6,.int .i64 0,.string ⟨#[]⟩,.slice none 0 0,.slice D (v.ms.set i (s,x)).length g])∧InV w' (Ne Z w w') (JV.mapV (v.ms.set i (s,x))) (.agg #[.int .i64 6,.int .i64 0,.string ⟨#[]⟩,.slice none 0 0,.slice D (v.ms.set i (s,x)).length g])∧Fr w w':=by
 have hpi:Pt.placeI v s=(i:Nat):=by unfold Pt.placeI;rw [if_pos h6,hp]
 obtain ⟨mm,hmm⟩:∃ mm,(if v.kd=6 then v.ms else [])=mm:=⟨_,rfl⟩
 have hml:mm.length*96≤140737488300000:=by
  rw [← hmm]
  split
  all_goals first | exact hl | (simp;done) | omega
 have HME:Hid (∀ W,Fr w W→Calls Tryz.prog 41 #[.agg #[.int .i64 v.kd,.int .i64 v.nm,.string ⟨v.tx.toArray⟩,.slice B v.ls.length d,.slice B' v.ms.length d']] W fun e w'=>∃ v' K,e=.returned v'∧W.heap.size≤K∧MsB w' Z K v' mm∧Fr W w'):=Lib.hid (fun W hW=>by rw [← hmm];exact tmembers_is v B d B' d' W Z (Nat.le_trans hZ hW.size) (hv.keep hZ hW) (by omega))
 have HPL:Hid (∀ W,Fr w W→Calls Tryz.prog 42 #[.agg #[.int .i64 v.kd,.int .i64 v.nm,.string ⟨v.tx.toArray⟩,.slice B v.ls.length d,.slice B' v.ms.length d'],.string ⟨s.toArray⟩] W fun e w'=>e=.returned (.int .i64 (Pt.placeI v s))∧Fr W w'):=Lib.hid (fun W hW=>place_is v B d B' d' s W ((hv.keep hZ hW).lo (Nat.le_trans hZ hW.size)))
 have hF3:Fr w (((w.alloc (.cells #[.int .i64 v.kd,.int .i64 v.nm,.string ⟨v.tx.toArray⟩,.slice B v.ls.length d,.slice B' v.ms.length d'] 25)).alloc (.cells #[.int .i64 x.kd,.int .i64 x.nm,.string ⟨x.tx.toArray⟩,.slice C x.ls.length f,.slice C' x.ms.length f'] 25)).alloc (.cells #[.int .i64 0,.int .i64 0,.string ⟨#[]⟩,.slice none 0 0,.slice none 0 0] 25)):=(((Fr.refl w).alloc _).alloc _).alloc _
 have hB3:Blk (((w.alloc (.cells #[.int .i64 v.kd,.int .i64 v.nm,.string ⟨v.tx.toArray⟩,.slice B v.ls.length d,.slice B' v.ms.length d'] 25)).alloc (.cells #[.int .i64 x.kd,.int .i64 x.nm,.string ⟨x.tx.toArray⟩,.slice C x.ls.length f,.slice C' x.ms.length f'] 25)).alloc (.cells #[.int .i64 0,.int .i64 0,.string ⟨#[]⟩,.slice none 0 0,.slice none 0 0] 25)) w.heap.size #[.int .i64 v.kd,.int .i64 v.nm,.string ⟨v.tx.toArray⟩,.slice B v.ls.length d,.slice B' v.ms.length d'] 25:=((Blk.made w _ _).keep ((Fr.refl _).alloc _)).keep ((Fr.refl _).alloc _)
 have hX3:Blk (((w.alloc (.cells #[.int .i64 v.kd,.int .i64 v.nm,.string ⟨v.tx.toArray⟩,.slice B v.ls.length d,.slice B' v.ms.length d'] 25)).alloc (.cells #[.int .i64 x.kd,.int .i64 x.nm,.string ⟨x.tx.toArray⟩,.slice C x.ls.length f,.slice C' x.ms.length f'] 25)).alloc (.cells #[.int .i64 0,.int .i64 0,.string ⟨#[]⟩,.slice none 0 0,.slice none 0 0] 25)) (w.heap.size+1) #[.int .i64 x.kd,.int .i64 x.nm,.string ⟨x.tx.toArray⟩,.slice C x.ls.length f,.slice C' x.ms.length f'] 25:=(boxz (Blk.made (w.alloc _) _ _)).keep ((Fr.refl _).alloc _)
 have hZ3:Blk (((w.alloc (.cells #[.int .i64 v.kd,.int .i64 v.nm,.string ⟨v.tx.toArray⟩,.slice B v.ls.length d,.slice B' v.ms.length d'] 25)).alloc (.cells #[.int .i64 x.kd,.int .i64 x.nm,.string ⟨x.tx.toArray⟩,.slice C x.ls.length f,.slice C' x.ms.length f'] 25)).alloc (.cells #[.int .i64 0,.int .i64 0,.string ⟨#[]⟩,.slice none 0 0,.slice none 0 0] 25)) (w.heap.size+1+1) #[.int .i64 0,.int .i64 0,.string ⟨#[]⟩,.slice none 0 0,.slice none 0 0] 25:=boxy (Blk.made ((w.alloc _).alloc _) _ _)
 have HV:=Lib.hid hv
 have HX:=Lib.hid hx
 have hmv:mm=v.ms:=by rw [← hmm,if_pos h6]
 have key:∀ mm',mm'=v.ms → ∃ hi:i<mm'.length,mm'[i].1=s:=by
  rintro _ rfl
  obtain ⟨hi,hname,_⟩:=Pt.withM_some x hp
  exact ⟨hi,hname⟩
 obtain ⟨hi,hname⟩:=key mm hmv
 have HMV:=Lib.hid hmv
 have HPI:=Lib.hid hpi
 have hi':(i:Int)<(mm.length:Int):=by omega
 have hi0:decide ((0:Int)≤(i:Int))=true:=decide_eq_true (by omega)
 have hm63:(mm.length:Int)≤140737488355328:=by omega
 have HNA:=Lib.hid hname
 clear hv hx hp hmm hpi hmv hname key h6
 go_enter Tryz.func18,Tryz.ntmps18
 go_upto_region 1 with fail
 generalize (((w.alloc (.cells #[.int .i64 v.kd,.int .i64 v.nm,.string ⟨v.tx.toArray⟩,.slice B v.ls.length d,.slice B' v.ms.length d'] 25)).alloc (.cells #[.int .i64 x.kd,.int .i64 x.nm,.string ⟨x.tx.toArray⟩,.slice C x.ls.length f,.slice C' x.ms.length f'] 25)).alloc (.cells #[.int .i64 0,.int .i64 0,.string ⟨#[]⟩,.slice none 0 0,.slice none 0 0] 25))=W0 at hF3 hB3 hX3 hZ3 ⊢
 have HF3:=Lib.hid hF3
 have HB3:=Lib.hid hB3
 have HX3:=Lib.hid hX3
 have HZ3:=Lib.hid hZ3
 have hz1:w.heap.size+1+1<W0.heap.size:=hZ3.lt
 obtain ⟨⟨a0,a1,a2,a3,a4⟩,_⟩:=box5 hB3
 clear hF3 hB3 hX3 hZ3
 go_upto_region 2 with (go_at_call 41;refine (HME.out _ HF3.out).mono ?_;rintro e w1 ⟨v1,K,rfl,hK,hv1,hf⟩;obtain ⟨sa,sc,rfl⟩:=hv1.is_slice;have HV1:=Lib.hid hv1;have HF1:=Lib.hid hf;clear hv1 hf)
 have hw5:=HF1.out.alloc (.cells #[.int .i64 6,.int .i64 0,.string ⟨#[]⟩,.slice none 0 0,(.slice sa mm.length sc)] 25)
 have hb5:=Blk.made w1 #[.int .i64 6,.int .i64 0,.string ⟨#[]⟩,.slice none 0 0,(.slice sa mm.length sc)] 25
 have hv5:=HV1.out.keep ((Fr.refl w1).alloc (.cells #[.int .i64 6,.int .i64 0,.string ⟨#[]⟩,.slice none 0 0,(.slice sa mm.length sc)] 25))
 have hk1:=HV1.out.1
 have hx7:w1.heap.size<(w1.alloc (.cells #[.int .i64 6,.int .i64 0,.string ⟨#[]⟩,.slice none 0 0,(.slice sa mm.length sc)] 25)).heap.size:=by simp
 have hf1:=HF1.out.size
 generalize (w1.alloc (.cells #[.int .i64 6,.int .i64 0,.string ⟨#[]⟩,.slice none 0 0,(.slice sa mm.length sc)] 25))=W5 at hw5 hb5 hv5 hx7 ⊢
 have hown7:(Value.slice sa mm.length sc).ownBlock≠some w1.heap.size:=fun e=>by have:=(HV1.out.own_lt e).2;omega
 generalize w1.heap.size=X7 at hb5 hx7 hk1 hf1 hown7 ⊢
 have HF5:=Lib.hid hw5
 have HB5:=Lib.hid hb5
 have HV5:=Lib.hid hv5
 obtain ⟨⟨c0,c1,c2,c3,c4⟩,_⟩:=box5 (HB3.out.keep hw5)
 clear hw5 hb5 hv5 a0 a1 a2 a3 a4
 obtain ⟨g,rfl,hgK,hgl,hgc,hgf⟩:=HV5.out.open_ hi
 clear hgc hgf
 go_upto_region 5 with (go_at_call 42;refine (HPL.out _ (HF3.out.trans HF5.out)).mono ?_;rw [HPI.out];rintro e w2 ⟨rfl,hf⟩;have hb7:=HB5.out.keep hf;obtain ⟨⟨p0,p1,p2,p3,p4⟩,f0,f1,f2,f3,f4⟩:=box5 hb7;have HB7:=Lib.hid hb7;obtain ⟨⟨x0,x1,x2,x3,x4⟩,_⟩:=box5 (HX3.out.keep (HF5.out.trans hf));have hzz:=HZ3.out.keep (HF5.out.trans hf);obtain ⟨⟨z0,z1,z2,z3,z4⟩,g0,g1,g2,g3,g4⟩:=box5 hzz;have HZ7:=Lib.hid hzz;have hv7:=HV5.out.keep hf;obtain ⟨g',hgg,hgK',hgl',hgc',hgf'⟩:=hv7.open_ hi;injection hgg with hgg;injection hgg with hgg _ _;subst hgg;obtain ⟨m1,hm1⟩:=hgc' i hi 1 (by omega);have hm1:w2.cell? ⟨g,i*6+1,none⟩=some m1:=hm1;have hmf1:=hgf' (i*6+1);obtain ⟨m2,hm2⟩:=hgc' i hi 2 (by omega);have hm2:w2.cell? ⟨g,i*6+1+1,none⟩=some m2:=hm2;have hmf2:=hgf' (i*6+1+1);obtain ⟨m3,hm3⟩:=hgc' i hi 3 (by omega);have hm3:w2.cell? ⟨g,i*6+1+2,none⟩=some m3:=hm3;have hmf3:=hgf' (i*6+1+2);obtain ⟨m4,hm4⟩:=hgc' i hi 4 (by omega);have hm4:w2.cell? ⟨g,i*6+1+3,none⟩=some m4:=hm4;have hmf4:=hgf' (i*6+1+3);obtain ⟨m5,hm5⟩:=hgc' i hi 5 (by omega);have hm5:w2.cell? ⟨g,i*6+1+4,none⟩=some m5:=hm5;have hmf5:=hgf' (i*6+1+4);clear hgc' hgf';have HV7:=Lib.hid hv7;have HF7:=Lib.hid (HF5.out.trans hf);have HGL:=Lib.hid hgl';clear hb7 hzz hf hv7)
 have hgX:g≠X7:=fun e=>hown7 (by rw [e];rfl)
 have hgR:g≠w.heap.size+1+1:=by have:=hgK;have:=hK;omega
 have hb9:Blk (((((w2.setCell ⟨g,i*6+1,none⟩ (.int .i64 x.kd)).setCell ⟨g,i*6+1+1,none⟩ (.int .i64 x.nm)).setCell ⟨g,i*6+1+2,none⟩ (.string ⟨x.tx.toArray⟩)).setCell ⟨g,i*6+1+3,none⟩ (.slice C x.ls.length f)).setCell ⟨g,i*6+1+4,none⟩ (.slice C' x.ms.length f')) X7 #[.int .i64 6,.int .i64 0,.string ⟨#[]⟩,.slice none 0 0,(.slice (some ⟨g,0,none⟩) mm.length sc)] 25:=((((HB7.out.other (show (Addr.mk g (i*6+1) none).block≠X7 from hgX) _).other (show (Addr.mk g (i*6+1+1) none).block≠X7 from hgX) _).other (show (Addr.mk g (i*6+1+2) none).block≠X7 from hgX) _).other (show (Addr.mk g (i*6+1+3) none).block≠X7 from hgX) _).other (show (Addr.mk g (i*6+1+4) none).block≠X7 from hgX) _
 have hz9:Blk (((((w2.setCell ⟨g,i*6+1,none⟩ (.int .i64 x.kd)).setCell ⟨g,i*6+1+1,none⟩ (.int .i64 x.nm)).setCell ⟨g,i*6+1+2,none⟩ (.string ⟨x.tx.toArray⟩)).setCell ⟨g,i*6+1+3,none⟩ (.slice C x.ls.length f)).setCell ⟨g,i*6+1+4,none⟩ (.slice C' x.ms.length f')) (w.heap.size+1+1) #[.int .i64 0,.int .i64 0,.string ⟨#[]⟩,.slice none 0 0,.slice none 0 0] 25:=((((HZ7.out.other (show (Addr.mk g (i*6+1) none).block≠_ from hgR) _).other (show (Addr.mk g (i*6+1+1) none).block≠_ from hgR) _).other (show (Addr.mk g (i*6+1+2) none).block≠_ from hgR) _).other (show (Addr.mk g (i*6+1+3) none).block≠_ from hgR) _).other (show (Addr.mk g (i*6+1+4) none).block≠_ from hgR) _
 have hgW:W0.heap.size≤g:=Nat.le_trans hK hgK
 have hf9:Fr W0 (((((w2.setCell ⟨g,i*6+1,none⟩ (.int .i64 x.kd)).setCell ⟨g,i*6+1+1,none⟩ (.int .i64 x.nm)).setCell ⟨g,i*6+1+2,none⟩ (.string ⟨x.tx.toArray⟩)).setCell ⟨g,i*6+1+3,none⟩ (.slice C x.ls.length f)).setCell ⟨g,i*6+1+4,none⟩ (.slice C' x.ms.length f')):=((((HF7.out.setCell (p:=⟨g,i*6+1,none⟩) hgW _).setCell (p:=⟨g,i*6+1+1,none⟩) hgW _).setCell (p:=⟨g,i*6+1+2,none⟩) hgW _).setCell (p:=⟨g,i*6+1+3,none⟩) hgW _).setCell (p:=⟨g,i*6+1+4,none⟩) hgW _
 have hin9:=HV7.out.setInV hi (by omega) (HX.out.keep hZ (HF3.out.trans HF7.out)) s HNA.out
 have hs9:(((((w2.setCell ⟨g,i*6+1,none⟩ (.int .i64 x.kd)).setCell ⟨g,i*6+1+1,none⟩ (.int .i64 x.nm)).setCell ⟨g,i*6+1+2,none⟩ (.string ⟨x.tx.toArray⟩)).setCell ⟨g,i*6+1+3,none⟩ (.slice C x.ls.length f)).setCell ⟨g,i*6+1+4,none⟩ (.slice C' x.ms.length f')).heap.size=w2.heap.size:=by simp [World.setCell]
 rw [← hs9] at hin9
 generalize (((((w2.setCell ⟨g,i*6+1,none⟩ (.int .i64 x.kd)).setCell ⟨g,i*6+1+1,none⟩ (.int .i64 x.nm)).setCell ⟨g,i*6+1+2,none⟩ (.string ⟨x.tx.toArray⟩)).setCell ⟨g,i*6+1+3,none⟩ (.slice C x.ls.length f)).setCell ⟨g,i*6+1+4,none⟩ (.slice C' x.ms.length f'))=W9 at hb9 hz9 hf9 hin9 ⊢
 obtain ⟨⟨r0,r1,r2,r3,r4⟩,_⟩:=box5 hb9
 obtain ⟨⟨t0,t1,t2,t3,t4⟩,tf0,tf1,tf2,tf3,tf4⟩:=box5 hz9
 have HZ9:=Lib.hid hz9
 have HF9:=Lib.hid hf9
 have HIN9:=Lib.hid hin9
 clear hb9 hz9 hf9 hin9 hm1 hm2 hm3 hm4 hm5 hmf1 hmf2 hmf3 hmf4 hmf5 p0 p1 p2 p3 p4 x0 x1 x2 x3 x4 z0 z1 z2 z3 z4 hs9
 go_wp2_with fail
 refine bodyPost_ret (results_cv (by rfl) rfl _ (w.heap.size+1+1) (by rfl) _ _ _ _ _ (set5 HZ9.out)) rfl ?_
 have hlen:(mm.set i (s,x)).length=mm.length:=by simp
 have hfin:=(HF3.out.trans HF9.out).put5 (X:=w.heap.size+1+1) (by omega) (.int .i64 6) (.int .i64 0) (.string ⟨#[]⟩) (.slice none 0 0) (.slice (some ⟨g,0,none⟩) mm.length sc)
 rw [← HMV.out]
 refine ⟨some ⟨g,0,none⟩,sc,by rw [hlen],?_,hfin⟩
 refine HIN9.out.map (fun b hb=>?_) (fun b o hb=>?_)
 ·rcases hb with hb | hb
  ·exact .inl hb
  ·exact .inr ⟨by have:=HF3.out.size;omega,by simpa [World.setCell] using hb.2⟩
 ·have hne:b≠w.heap.size+1+1:=by rcases hb with hb | hb <;> omega
  unfold World.cell?
  rw [Below.heap_setCell _ _ _ _ hne,Below.heap_setCell _ _ _ _ hne,Below.heap_setCell _ _ _ _ hne,Below.heap_setCell _ _ _ _ hne,Below.heap_setCell _ _ _ _ hne]

theorem twith_is (v x:JV) (B:Option Addr) (d:Nat) (B':Option Addr) (d':Nat) (C:Option Addr) (f:Nat) (C':Option Addr) (f':Nat) (s:List UInt8) (w:World) (Z:Nat) (hZ:Z≤w.heap.size) (hv:InV w (Lo Z) v (vA v B d B' d')) (hx:InV w (Lo Z) x (vA x C f C' f')) (hl:v.ms.length*96≤140737488300000) (hs:s.length≤140737488355328):
  Calls Tryz.prog 18 #[.agg #[.int .i64 v.kd,.int .i64 v.nm,.string ⟨v.tx.toArray⟩,.slice B v.ls.length d,.slice B' v.ms.length d'],.string ⟨s.toArray⟩,.agg #[.int .i64 x.kd,.int .i64 x.nm,.string ⟨x.tx.toArray⟩,.slice C x.ls.length f,.slice C' x.ms.length f']] w fun e w'=>∃ (D:Option Addr) (g:Nat),e=.returned (.agg #[.int .i64 6,.int .i64 0,.string ⟨#[]⟩,.slice none 0 0,.slice D (Pt.withM (if v.kd=6 then v.ms else []) s x).length g])∧InV w' (Ne Z w w') (JV.mapV (Pt.withM (if v.kd=6 then v.ms else []) s x)) (.agg #[.int .i64 6,.int .i64 0,.string ⟨#[]⟩,.slice none 0 0,.slice D (Pt.withM (if v.kd=6 then v.ms else []) s x).length g])∧Fr w w':=by
 by_cases h6:v.kd=6
 ·cases hp:Pt.placeM v.ms s with
  | none=>
   have:=with_new v x B d B' d' C f C' f' s w Z hZ hv hx hl hs (by unfold Pt.placeI;rw [if_pos h6,hp])
   rw [if_pos h6] at this ⊢
   rw [Pt.withM_none x hp]
   exact this
  | some i=>
   have:=with_old v x B d B' d' C f C' f' s w Z hZ hv hx hl hs i h6 hp
   rw [if_pos h6]
   obtain ⟨_,_,e⟩:=Pt.withM_some x hp
   rw [e]
   exact this
 ·have:=with_new v x B d B' d' C f C' f' s w Z hZ hv hx hl hs (by unfold Pt.placeI;rw [if_neg h6])
  rw [if_neg h6] at this ⊢
  exact this
/- The walk of the document's With (cardboxref07). -/

structure GM (Z:Nat) (W0 wr:World) (v:Value) (acc:List (List UInt8 × JV)):Prop where
 vs:MsB wr Z (W0.heap.size+1) v acc
 bx:Blk wr W0.heap.size #[.int .i64 6,.int .i64 0,.string ⟨#[]⟩,.slice none 0 0,v] 25
 fr:Fr W0 wr
def Pt.WR (m:List (List UInt8 × JV)) (s:List UInt8) (x:JV) (i:Nat) (dn:Bool) (acc:List (List UInt8 × JV)):Prop:=
 acc.length=i∧((dn=false∧acc=m.take i∧Pt.withM m s x=m.take i++Pt.withM (m.drop i) s x)∨(dn=true∧Pt.withM m s x=acc++m.drop i))
theorem box6 {w:World} {X:Nat} {a b c d e f:Value} {t:TypeId} (h:Blk w X #[a,b,c,d,e,f] t):(w.cell? ⟨X,0,none⟩=some a∧w.cell? ⟨X,1,none⟩=some b∧w.cell? ⟨X,2,none⟩=some c∧w.cell? ⟨X,3,none⟩=some d∧w.cell? ⟨X,4,none⟩=some e∧w.cell? ⟨X,5,none⟩=some f)∧w.frozen? ⟨X,0,none⟩=false∧w.frozen? ⟨X,1,none⟩=false∧w.frozen? ⟨X,2,none⟩=false∧w.frozen? ⟨X,3,none⟩=false∧w.frozen? ⟨X,4,none⟩=false∧w.frozen? ⟨X,5,none⟩=false:=
 ⟨⟨h.cell 0,h.cell 1,h.cell 2,h.cell 3,h.cell 4,h.cell 5⟩,h.free 0,h.free 1,h.free 2,h.free 3,h.free 4,h.free 5⟩
end Go.Proofs.YtdhakbghdcfncaaGreatDoor
