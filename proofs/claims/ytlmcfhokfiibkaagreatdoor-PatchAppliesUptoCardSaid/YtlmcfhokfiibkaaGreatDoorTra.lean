/- Lists of members that a call collects: out of what came in, and of new memory. -/
import Derived.Test.YtlmcfhokfiibkaaGreatDoorPte
import Derived.Test.YtlmcfhokfiibkaaGreatDoorEe
import Derived.OneCell
import Derived.Lib.SliceRun
namespace Go.Proofs.YtlmcfhokfiibkaaGreatDoor
set_option maxRecDepth 100000
set_option maxHeartbeats 4000000
set_option linter.unusedVariables false
set_option linter.unusedSimpArgs false
open Go.RowKit

def MsB (w:World) (Z K:Nat) (v:Value) (m:List (List UInt8 × JV)):Prop:=(Z≤K∧K≤w.heap.size) ∧ ∃ xs:List (List UInt8 × Value),Mbs w K v xs∧xs.length=m.length ∧ ∀ i (h1:i<xs.length) (h2:i<m.length),xs[i].1=m[i].1∧m[i].1.length≤140737488355328∧InV w (Lo Z) m[i].2 xs[i].2
theorem Mbs.own_ltB {w:World} {base:Nat} {v:Value} {xs:List (List UInt8 × Value)} (h:Mbs w base v xs) {k:Nat} (hk:v.ownBlock=some k):base≤k∧k<w.heap.size:=World.ownsRow.lt h.1 k hk
theorem InB.okM {Z K:Nat} {w:World} {v:Value} (hK:Z≤K∧K≤w.heap.size) {xs:List (List UInt8 × Value)} (h:Mbs w K v xs) {b:Nat} (hb:Lo Z b):b<w.heap.size∧v.ownBlock≠some b:=by
 have hb:b<Z:=hb
 exact ⟨by omega,fun e=>by have:=(h.own_ltB e).1;omega⟩
theorem MsB.none_ (w:World) {Z K:Nat} (h:Z≤K∧K≤w.heap.size):MsB w Z K (.slice none 0 0) []:=⟨h,[],Mbs.none_ w K,rfl,fun i h=>absurd h (by simp)⟩
theorem MsB.keep {w w':World} {Z K:Nat} {v:Value} {l:List (List UInt8 × JV)} (h:MsB w Z K v l) (hf:Fr w w'):MsB w' Z K v l:=by
 obtain ⟨h0,xs,h1,h2,h3⟩:=h
 exact ⟨⟨h0.1,Nat.le_trans h0.2 hf.size⟩,xs,h1.keep hf,h2,fun i a b=>⟨(h3 i a b).1,(h3 i a b).2.1,(h3 i a b).2.2.map (fun _ h=>h) (fun b o hs=>hf.cell (InB.okM h0 h1 hs).1)⟩⟩
theorem MsB.frx {w w':World} {X Z K:Nat} {v:Value} {l:List (List UInt8 × JV)} (h:MsB w Z K v l) (hZ:Z≤X) (hX:X<K) (hf:FrX X w w'):MsB w' Z K v l:=by
 obtain ⟨h0,xs,h1,h2,h3⟩:=h
 refine ⟨⟨h0.1,Nat.le_trans h0.2 hf.size⟩,xs,h1.frx hX hf,h2,fun i a b=>⟨(h3 i a b).1,(h3 i a b).2.1,(h3 i a b).2.2.map (fun _ h=>h) (fun b o hs=>hf.cell (InB.okM h0 h1 hs).1 (fun e=>?_))⟩⟩
 have hs:b<Z:=hs
 omega
theorem MsB.is_slice {w:World} {Z K:Nat} {v:Value} {l:List (List UInt8 × JV)} (h:MsB w Z K v l):∃ a c,v=.slice a l.length c:=by
 obtain ⟨_,xs,h1,h2,_⟩:=h
 rcases h1.form with ⟨rfl,rfl⟩ | ⟨g,cap,rfl,_⟩
 ·exact ⟨none,0,by rw [← h2];rfl⟩
 ·exact ⟨_,_,by rw [h2]⟩
theorem MsB.own_lt {w:World} {Z K:Nat} {v:Value} {l:List (List UInt8 × JV)} (h:MsB w Z K v l) {k:Nat} (hk:v.ownBlock=some k):K≤k∧k<w.heap.size:=by
 obtain ⟨_,xs,h1,_⟩:=h;exact h1.own_ltB hk
theorem run_mBk {w:World} (ty:TypeId) (Z K:Nat) (v:Value) (l:List (List UInt8 × JV)) (hown:MsB w Z K v l) (ad:Addr) (c:Nat) (us:List (List UInt8 × JV)) (news:List (List UInt8 × Value)) (hln:news.length=us.length) (h5:∀ p∈news,Five p.2) (hu:∀ i (h1:i<news.length) (h2:i<us.length),news[i].1=us[i].1∧us[i].1.length≤140737488355328∧InV w (Lo Z) us[i].2 news[i].2)
  (hcells:∀ j u,(mcs news)[j]? = some u→w.cell? (ad.add j)=some u) (h63:(l.length+us.length)*96≤140737488355328):
  ∃ v' w',(Builtin.append_ #[23,23] ty #[v,.slice (some ad) us.length c]).run Tryz.prog w=.ok v' w'∧MsB w' Z K v' (l++us)∧w.grownBy w' v.ownBlock∧(v'.ownBlock=v.ownBlock∨v'.ownBlock=some w.heap.size):=by
 obtain ⟨h0,xs,hvb,hlen,hin⟩:=hown
 obtain ⟨i,hi,hz,hsz,hby⟩:=info_parts mb_info
 obtain ⟨v',w',hr,h3,h4,_,h6⟩:=run_append_own_at (P:=Tryz.prog) w K 23 ty 38 i _ 6 96 Tryz.underlying23 hi hz hsz hby rfl (by omega) v _ (mcs xs) hvb.1 ad us.length c (mcs news) (by rw [← hln];exact mcs_len h5) hcells (mcs_one h5) (by unfold maxLen;omega) (by omega) h0.2
 have hC:∀ b o,Lo Z b→w'.cell? ⟨b,o,none⟩=w.cell? ⟨b,o,none⟩:=fun b o hb=>by
  have hk:=InB.okM h0 hvb hb
  unfold World.cell?;rw [h4.block b hk.1 (fun e=>hk.2 e.symm)]
 refine ⟨v',w',hr,⟨⟨h0.1,Nat.le_trans h0.2 h4.size⟩,xs++news,⟨?_,?_⟩,by simp [hlen,hln],fun i a b=>?_⟩,h4,h6⟩
 ·rw [mcs_app,List.length_append,hln];exact h3
 ·intro p hp
  rcases List.mem_append.1 hp with hp | hp
  ·exact hvb.2 p hp
  ·exact h5 p hp
 ·by_cases hil:i<l.length
  ·rw [List.getElem_append_left hil,List.getElem_append_left (by omega)]
   obtain ⟨e1,e2,e3⟩:=hin i (by omega) hil
   exact ⟨e1,e2,e3.map (fun _ h=>h) hC⟩
  ·rw [List.getElem_append_right (by omega),List.getElem_append_right (by omega)]
   have e:i - xs.length=i - l.length:=by omega
   simp only [e]
   obtain ⟨e1,e2,e3⟩:=hu (i - l.length) (by simp at a;omega) (by simp at b;omega)
   exact ⟨e1,e2,e3.map (fun _ h=>h) hC⟩
theorem run_mB {w:World} (ty:TypeId) (Z K:Nat) (v:Value) (l:List (List UInt8 × JV)) (hown:MsB w Z K v l) (A:Option Addr) (c:Nat) (us:List (List UInt8 × JV)) (hA:MsC w (Lo Z) A us) (h63:(l.length+us.length)*96≤140737488355328):
  ∃ v' w',(Builtin.append_ #[23,23] ty #[v,.slice A us.length c]).run Tryz.prog w=.ok v' w'∧MsB w' Z K v' (l++us)∧w.grownBy w' v.ownBlock∧(v'.ownBlock=v.ownBlock∨v'.ownBlock=some w.heap.size):=by
 by_cases hne:us=[]
 ·subst hne
  cases A with
  | none=>
   obtain ⟨h0,xs,hvb,hlen,hin⟩:=id hown
   obtain ⟨i,hi,_⟩:=info_parts mb_info
   exact ⟨v,w,run_append_owned_empty K _ ty _ i 6 Tryz.underlying23 hi v _ (mcs xs) hvb.1 c,by rw [List.append_nil];exact hown,⟨rfl,rfl,rfl,Nat.le_refl _,fun _ _ _=>rfl⟩,.inl rfl⟩
  | some ad=>exact run_mBk ty Z K v l hown ad c [] [] rfl (by simp) (fun i h=>absurd h (by simp)) (fun j u hu=>by simp [mcs] at hu) h63
 ·obtain ⟨b,o,B,d,B',d',he,_⟩:=hA 0 (by cases us with | nil=>exact absurd rfl hne | cons _ _=>simp)
  subst he
  obtain ⟨news,hln,h5,hu,hcells⟩:=hA.row
  refine run_mBk ty Z K v l hown ⟨b,o,none⟩ c us news hln h5 hu (fun j u hu=>?_) h63
  rw [show (Addr.mk b o none).add j=⟨b,o+j,none⟩ by
   by_cases h0:j=0
   ·subst h0;simp [Addr.add]
   ·simp [Addr.add,h0]]
  exact hcells j u hu
theorem wpl_mB {ops:Array Oper} {rest:List Oper} {o:Oper} {a:Act} {w:World} {Q:Exit→Act→World→Prop}
  (hgd:o.guard=none) (s x:Operand) (ho:o.op=.call { callee:=.builtin .append,args:=#[s,x],argTypes:=#[23,23] })
  (Z K:Nat) (v:Value) (l:List (List UInt8 × JV)) (hs:a.eval s=v) (hown:MsB w Z K v l) (A:Option Addr) (c n:Nat) (us:List (List UInt8 × JV)) (hx:a.eval x=.slice A n c) (hn:n=us.length) (hA:MsC w (Lo Z) A us) (h63:(l.length+us.length)*96≤140737488355328)
  (h:∀ v' w',MsB w' Z K v' (l++us)→w.grownBy w' v.ownBlock→(v'.ownBlock=v.ownBlock∨v'.ownBlock=some w.heap.size)→wpList Tryz.prog ops Q rest (a.put o.dst v') w'):
  wpList Tryz.prog ops Q (o::rest) a w:=by
 subst hn
 refine wpList_plain hgd fun K2 hK=>?_
 obtain ⟨v',w',hr,h3,h4,h6⟩:=run_mB (w:=w) o.type Z K v l hown A c us hA h63
 unfold Oper.wp execOp
 simp only [ho,resolve,invoke,builtin,Sem.run_bind,Sem.run_pure,Result.andThen_ok,List.map_toArray,List.map_cons,List.map_nil,hs,hx,hr]
 exact hK _ _ (h v' w' h3 h4 (by simpa using h6))
theorem msb_fr {w a b:World} {Z K:Nat} {v:Value} {l:List (List UInt8 × JV)} (hf:Fr w a) (hv:MsB a Z K v l) (hK:w.heap.size≤K) (hg:a.grownBy b v.ownBlock):Fr w b:=
 Below.grown hf hg hf.size (fun k hk=>by have:=(hv.own_lt hk).1;omega)
/- The walks of slices.Clone at members, tree.members, tree.With. -/

theorem results_cv {fn:Func} {p:Tmp} {ty:TypeId} (hf:fn.results=#[.cell p ty]) (hT:ty=25) (w:World) (X:Nat) {tmps:Array Value} (h2:tmps.getD p undef=.pointer (some ⟨X,0,none⟩))
  (v0 v1 v2 v3 v4:Value) (hV:Blk w X #[v0,v1,v2,v3,v4] 25):
  (results fn tmps).run Tryz.prog w=.ok (.agg #[v0,v1,v2,v3,v4]) w:=by
 subst hT
 have a0:=hV.cell 0
 have a1:=hV.cell 1
 have a2:=hV.cell 2
 have a3:=hV.cell 3
 have a4:=hV.cell 4
 simp at h2 a0 a1 a2 a3 a4
 simp [results,hf,h2,go_sem,a0,a1,a2,a3,a4]
namespace Pt
def withM:List (List UInt8 × JV)→List UInt8→JV→List (List UInt8 × JV)
 | [],s,x=>[(s,x)]
 | p::m,s,x=>if p.1=s then (s,x)::m else p::withM m s x
def with_ (v:JV) (s:List UInt8) (x:JV):JV:=JV.mapV (withM (if v.kd=6 then v.ms else []) s x)
theorem withM_none:∀ {m:List (List UInt8 × JV)} {s:List UInt8} (x:JV),placeM m s=none→withM m s x=m++[(s,x)]
 | [],s,x,_=>rfl
 | p::m,s,x,h=>by
  unfold placeM at h
  split at h
  ·cases h
  ·rename_i hp
   unfold withM
   rw [if_neg hp,withM_none x (by cases hq:placeM m s with | none=>rfl | some k=>rw [hq] at h;cases h)]
   rfl
theorem withM_some:∀ {m:List (List UInt8 × JV)} {s:List UInt8} (x:JV) {i:Nat},placeM m s=some i → ∃ h:i<m.length,m[i].1=s∧withM m s x=m.set i (s,x)
 | [],s,x,i,h=>by cases h
 | p::m,s,x,i,h=>by
  unfold placeM at h
  split at h
  ·rename_i hp
   obtain rfl:=Option.some.inj h
   refine ⟨by simp,hp,?_⟩
   unfold withM
   rw [if_pos hp];rfl
  ·rename_i hp
   cases hq:placeM m s with
   | none=>rw [hq] at h;cases h
   | some k=>
    rw [hq] at h
    obtain rfl:=Option.some.inj h
    obtain ⟨h1,h2,h3⟩:=withM_some x hq
    refine ⟨by simp;exact h1,by simpa using h2,?_⟩
    unfold withM
    rw [if_neg hp,h3];rfl
end Pt
theorem MsB.empty (w:World) {Z:Nat} (hZ:Z≤w.heap.size):MsB (w.alloc (.cells #[] 38)) Z w.heap.size (.slice (some ⟨w.heap.size,0,none⟩) 0 0) []:=
 ⟨⟨hZ,by simp⟩,[],⟨World.ownsRow_lit (base:=w.heap.size) (size:=6) (e:=38) w #[] 0 (Nat.le_refl _) (by unfold maxLen;omega) (by simp),by simp⟩,rfl,fun i h=>absurd h (by simp)⟩

theorem clone_m_is (m:List (List UInt8 × JV)) (A:Option Addr) (c:Nat) (w:World) (Z:Nat) (hZ:Z≤w.heap.size) (h:MsC w (Lo Z) A m) (hl:m.length*96≤140737488355328):
  Calls Tryz.prog 35 #[.slice A m.length c] w fun e w'=>∃ v',e=.returned v'∧MsB w' Z w.heap.size v' m∧Fr w w':=by
 have HM:=Lib.hid h
 have hl':(m.length:Int)≤140737488355328:=by omega
 cases A with
 | none=>
  have hm:m=[]:=by
   cases m with
   | nil=>rfl
   | cons p m=>obtain ⟨_,_,_,_,_,_,he,_⟩:=h 0 (by simp);cases he
  subst hm
  have hq:=fun W=>Lib.run_eql_slice_nil (P:=Tryz.prog) W 23 38 none 0 c 0 0 Tryz.underlying23
  clear h
  go_enter Tryz.func35,Tryz.ntmps35
  go_wp2_with fail
  go_ret
  exact ⟨_,rfl,MsB.none_ w ⟨hZ,Nat.le_refl _⟩,Fr.refl w⟩
 | some ad=>
  have hk:(0+m.length)*96≤140737488355328:=by omega
  have HE:Hid (MsB (w.alloc (.cells #[] 38)) Z w.heap.size (.slice (some ⟨w.heap.size,0,none⟩) 0 0) []):=MsB.empty w hZ
  have HC:Hid (MsC (w.alloc (.cells #[] 38)) (Lo Z) (some ad) m):=h.keep hZ ((Fr.refl w).alloc _)
  have hq:=fun W=>Lib.run_eql_slice_nil (P:=Tryz.prog) W 23 38 (some ad) m.length c 0 0 Tryz.underlying23
  clear h
  go_enter Tryz.func35,Tryz.ntmps35
  go_wp2_with (at_builtin;refine wpl_mB rfl (.tmp 5) (.tmp 6) rfl Z w.heap.size _ [] rfl HE.out (some ad) c m.length m rfl rfl HC.out (by simpa using hk) ?_;intro v4 w4 hv4 hg4 _;have hv4:MsB w4 Z w.heap.size v4 m:=hv4;obtain ⟨a4,c4,rfl⟩:=hv4.is_slice;have HF4:=Lib.hid (msb_fr ((Fr.refl w).alloc _) HE.out (Nat.le_refl _) hg4);have HV4:=Lib.hid hv4;clear hv4 hg4)
  go_ret
  exact ⟨_,rfl,HV4.out,HF4.out⟩

/- The walk of tree.With at a name that is there; tree.With. -/

theorem ad_ne {g o a b:Nat} (h:a≠b):(Addr.mk g (o+a) none)≠⟨g,o+b,none⟩:=fun e=>by injection e;omega
theorem put5g_at (w:World) (g o:Nat) (u0 u1 u2 u3 u4:Value) (he:∀ j,j<5 → ∃ u,w.cell? ⟨g,o+j,none⟩=some u):
  (((((w.setCell ⟨g,o,none⟩ u0).setCell ⟨g,o+1,none⟩ u1).setCell ⟨g,o+2,none⟩ u2).setCell ⟨g,o+3,none⟩ u3).setCell ⟨g,o+4,none⟩ u4).cell? ⟨g,o,none⟩=some u0∧(((((w.setCell ⟨g,o,none⟩ u0).setCell ⟨g,o+1,none⟩ u1).setCell ⟨g,o+2,none⟩ u2).setCell ⟨g,o+3,none⟩ u3).setCell ⟨g,o+4,none⟩ u4).cell? ⟨g,o+1,none⟩=some u1∧(((((w.setCell ⟨g,o,none⟩ u0).setCell ⟨g,o+1,none⟩ u1).setCell ⟨g,o+2,none⟩ u2).setCell ⟨g,o+3,none⟩ u3).setCell ⟨g,o+4,none⟩ u4).cell? ⟨g,o+2,none⟩=some u2∧(((((w.setCell ⟨g,o,none⟩ u0).setCell ⟨g,o+1,none⟩ u1).setCell ⟨g,o+2,none⟩ u2).setCell ⟨g,o+3,none⟩ u3).setCell ⟨g,o+4,none⟩ u4).cell? ⟨g,o+3,none⟩=some u3∧(((((w.setCell ⟨g,o,none⟩ u0).setCell ⟨g,o+1,none⟩ u1).setCell ⟨g,o+2,none⟩ u2).setCell ⟨g,o+3,none⟩ u3).setCell ⟨g,o+4,none⟩ u4).cell? ⟨g,o+4,none⟩=some u4:=by
 obtain ⟨e0,h0⟩:=he 0 (by omega)
 obtain ⟨e1,h1⟩:=he 1 (by omega)
 obtain ⟨e2,h2⟩:=he 2 (by omega)
 obtain ⟨e3,h3⟩:=he 3 (by omega)
 obtain ⟨e4,h4⟩:=he 4 (by omega)
 have n10:(Addr.mk g (o+1) none)≠⟨g,o,none⟩:=ad_ne (a:=1) (b:=0) (by omega)
 have n20:(Addr.mk g (o+2) none)≠⟨g,o,none⟩:=ad_ne (a:=2) (b:=0) (by omega)
 have n30:(Addr.mk g (o+3) none)≠⟨g,o,none⟩:=ad_ne (a:=3) (b:=0) (by omega)
 have n40:(Addr.mk g (o+4) none)≠⟨g,o,none⟩:=ad_ne (a:=4) (b:=0) (by omega)
 have n:∀ a b,a≠b→(Addr.mk g (o+a) none)≠⟨g,o+b,none⟩:=fun a b h=>ad_ne h
 refine ⟨?_,?_,?_,?_,?_⟩
 ·rw [World.cell?_setCell_other _ _ _ _ n40,World.cell?_setCell_other _ _ _ _ n30,World.cell?_setCell_other _ _ _ _ n20,World.cell?_setCell_other _ _ _ _ n10]
  exact World.cell?_setCell_same _ _ _ h0
 ·rw [World.cell?_setCell_other _ _ _ _ (n 4 1 (by omega)),World.cell?_setCell_other _ _ _ _ (n 3 1 (by omega)),World.cell?_setCell_other _ _ _ _ (n 2 1 (by omega))]
  exact World.cell?_setCell_same _ _ _ (by rw [World.cell?_setCell_other _ _ _ _ n10.symm];exact h1)
 ·rw [World.cell?_setCell_other _ _ _ _ (n 4 2 (by omega)),World.cell?_setCell_other _ _ _ _ (n 3 2 (by omega))]
  exact World.cell?_setCell_same _ _ _ (by rw [World.cell?_setCell_other _ _ _ _ (n 1 2 (by omega)),World.cell?_setCell_other _ _ _ _ n20.symm];exact h2)
 ·rw [World.cell?_setCell_other _ _ _ _ (n 4 3 (by omega))]
  exact World.cell?_setCell_same _ _ _ (by rw [World.cell?_setCell_other _ _ _ _ (n 2 3 (by omega)),World.cell?_setCell_other _ _ _ _ (n 1 3 (by omega)),World.cell?_setCell_other _ _ _ _ n30.symm];exact h3)
 ·exact World.cell?_setCell_same _ _ _ (by rw [World.cell?_setCell_other _ _ _ _ (n 3 4 (by omega)),World.cell?_setCell_other _ _ _ _ (n 2 4 (by omega)),World.cell?_setCell_other _ _ _ _ (n 1 4 (by omega)),World.cell?_setCell_other _ _ _ _ n40.symm];exact h4)
theorem put5g_other (w:World) (g o:Nat) (u0 u1 u2 u3 u4:Value) (q:Addr) (hq:∀ j,j<5→(Addr.mk g (o+j) none)≠q):(((((w.setCell ⟨g,o,none⟩ u0).setCell ⟨g,o+1,none⟩ u1).setCell ⟨g,o+2,none⟩ u2).setCell ⟨g,o+3,none⟩ u3).setCell ⟨g,o+4,none⟩ u4).cell? q=w.cell? q:=by
 rw [World.cell?_setCell_other _ _ _ _ (hq 4 (by omega)),World.cell?_setCell_other _ _ _ _ (hq 3 (by omega)),World.cell?_setCell_other _ _ _ _ (hq 2 (by omega)),World.cell?_setCell_other _ _ _ _ (hq 1 (by omega)),World.cell?_setCell_other _ _ _ _ (show (Addr.mk g o none)≠q from hq 0 (by omega))]
/- The walk of the document's With (cardboxref07). -/

structure GM (Z:Nat) (W0 wr:World) (v:Value) (acc:List (List UInt8 × JV)):Prop where
 vs:MsB wr Z (W0.heap.size+1) v acc
 bx:Blk wr W0.heap.size #[.int .i64 6,.int .i64 0,.string ⟨#[]⟩,.slice none 0 0,v] 25
 fr:Fr W0 wr
def Pt.WR (m:List (List UInt8 × JV)) (s:List UInt8) (x:JV) (i:Nat) (dn:Bool) (acc:List (List UInt8 × JV)):Prop:=
 acc.length=i∧((dn=false∧acc=m.take i∧Pt.withM m s x=m.take i++Pt.withM (m.drop i) s x)∨(dn=true∧Pt.withM m s x=acc++m.drop i))
theorem Pt.WR.start (m:List (List UInt8 × JV)) (s:List UInt8) (x:JV):Pt.WR m s x 0 false []:=⟨rfl,.inl ⟨rfl,by simp,by simp⟩⟩
theorem Pt.WR.hit {m:List (List UInt8 × JV)} {s:List UInt8} {x:JV} {i:Nat} {acc:List (List UInt8 × JV)} (h:Pt.WR m s x i false acc) (hi:i<m.length) (hs:m[i].1=s):Pt.WR m s x (i+1) true (acc++[(s,x)]):=by
 obtain ⟨h0,h1 | h1⟩:=h
 ·obtain ⟨_,rfl,h2⟩:=h1
  refine ⟨by simp;omega,.inr ⟨rfl,?_⟩⟩
  rw [h2,List.drop_eq_getElem_cons hi]
  unfold Pt.withM
  rw [if_pos hs]
  simp
 ·cases h1.1
theorem Pt.WR.on {m:List (List UInt8 × JV)} {s:List UInt8} {x:JV} {i:Nat} {dn:Bool} {acc:List (List UInt8 × JV)} (h:Pt.WR m s x i dn acc) (hi:i<m.length) (hs:dn=true∨m[i].1≠s):Pt.WR m s x (i+1) dn (acc++[m[i]]):=by
 obtain ⟨h0,h1 | h1⟩:=h
 ·obtain ⟨rfl,rfl,h2⟩:=h1
  have hn:m[i].1≠s:=hs.resolve_left (by simp)
  refine ⟨by simp;omega,.inl ⟨rfl,?_,?_⟩⟩
  ·rw [List.take_succ_eq_append_getElem hi]
  ·rw [h2,List.drop_eq_getElem_cons hi]
   conv=>lhs;unfold Pt.withM
   rw [if_neg hn,List.take_succ_eq_append_getElem hi,List.append_assoc]
   rfl
 ·obtain ⟨rfl,h2⟩:=h1
  refine ⟨by simp;omega,.inr ⟨rfl,?_⟩⟩
  rw [h2,List.drop_eq_getElem_cons hi]
  simp
theorem Pt.WR.stop {m:List (List UInt8 × JV)} {s:List UInt8} {x:JV} {dn:Bool} {acc:List (List UInt8 × JV)} (h:Pt.WR m s x m.length dn acc):Pt.withM m s x=if dn then acc else acc++[(s,x)]:=by
 obtain ⟨_,h1 | h1⟩:=h
 ·obtain ⟨rfl,rfl,h2⟩:=h1
  rw [h2,List.drop_length,List.take_length];rfl
 ·obtain ⟨rfl,h2⟩:=h1
  rw [h2,List.drop_length,List.append_nil];rfl
theorem box6 {w:World} {X:Nat} {a b c d e f:Value} {t:TypeId} (h:Blk w X #[a,b,c,d,e,f] t):(w.cell? ⟨X,0,none⟩=some a∧w.cell? ⟨X,1,none⟩=some b∧w.cell? ⟨X,2,none⟩=some c∧w.cell? ⟨X,3,none⟩=some d∧w.cell? ⟨X,4,none⟩=some e∧w.cell? ⟨X,5,none⟩=some f)∧w.frozen? ⟨X,0,none⟩=false∧w.frozen? ⟨X,1,none⟩=false∧w.frozen? ⟨X,2,none⟩=false∧w.frozen? ⟨X,3,none⟩=false∧w.frozen? ⟨X,4,none⟩=false∧w.frozen? ⟨X,5,none⟩=false:=
 ⟨⟨h.cell 0,h.cell 1,h.cell 2,h.cell 3,h.cell 4,h.cell 5⟩,h.free 0,h.free 1,h.free 2,h.free 3,h.free 4,h.free 5⟩
end Go.Proofs.YtlmcfhokfiibkaaGreatDoor
