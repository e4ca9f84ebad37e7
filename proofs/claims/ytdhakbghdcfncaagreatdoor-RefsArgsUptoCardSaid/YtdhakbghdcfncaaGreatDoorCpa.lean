/- As RegL, where number x and all that lie behind it may break the condition. -/
import Derived.Test.YtdhakbghdcfncaaGreatDoorKa
import Derived.Test.YtdhakbghdcfncaaGreatDoorTra
import Derived.Lib.SliceRun
namespace Go.Proofs.YtdhakbghdcfncaaGreatDoor
set_option maxRecDepth 100000
set_option maxHeartbeats 4000000
set_option linter.unusedVariables false
set_option linter.unusedSimpArgs false
open Go.RowKit

variable {P:Program} {md:Region.Mode} {ops:Array Oper} {Q:Exit→Act→World→Prop} {S:World→Prop}
theorem OrdM.first {i x:Nat} {ms:List Nat} {oi:Oper} {v:Value} (hi:ops[i]? = some oi) (hyx:(List.range ops.size).all (fun y=>decide (y≤x) || waitsOn ops md y x)=true)
  (hsel:∀ (j:Nat) (o:Oper) cs b,ops[j]? = some o→o.op≠.select cs b) (hQ:∀ c a w,Q (.panic c) (a.put oi.dst v) w→Q (.panic c) a w) (n:Nat):
  ∀ (l:Array Bool) (a:Act) (w:World),(∀ j oj,ops[j]? = some oj→j≠i→l.getD j true=false→(∀ e∈oj.after,Region.binds md e=true→e.on≠i)→oi.apart ops oj=true) →
   i∈Region.ready md ops l→waitsBy ops md l x i ms=true→l.getD x true=false→YieldsIf P ops S oi v a→S w→OrdL P md ops Q S (fun j=>decide (x≤j)) n (l.setIfInBounds i true) (a.put oi.dst v) w→OrdL P md ops Q S (fun j=>decide (x≤j)) (n+1) l a w:=by
 have open_:∀ (l:Array Bool) (j:Nat),j∈Region.ready md ops l→l.getD j true=false:=fun l j hr=>(mem_ready.1 hr).1
 induction n with
 | zero=>
  intro l a w hfree hr hch hx0 hy hS H
  refine ⟨fun h=>absurd hr (by rw [h];simp),fun j hj=>?_⟩
  by_cases hji:j=i
  ·subst hji
   exact hy.wpOp hi hS ⟨fun _=>hS,H⟩
  ·have h0:=ready_mono hj hji
   rw [H.1] at h0
   cases h0
 | succ n ih=>
  intro l a w hfree hr hch hx0 hy hS H
  refine ⟨fun h=>absurd hr (by rw [h];simp),fun j hj=>?_⟩
  by_cases hji:j=i
  ·subst hji
   exact hy.wpOp hi hS ⟨fun _=>hS,H⟩
  ·obtain ⟨_,oj,hoj,hall⟩:=mem_ready.1 hj
   have hun:=open_ l i hr
   have hapart:∀ e∈oj.after,Region.binds md e=true→e.on≠i:=fun e he hb heq=>by
    have h1:=hall e he hb
    rw [heq] at h1
    rcases Nat.lt_or_ge i l.size with h2 | h2
    ·simp [h2] at h1 hun;rw [hun] at h1;cases h1
    ·simp [Array.getElem?_eq_none h2] at h1
   obtain ⟨hjx,hch2⟩:=waitsBy.step ms i hch hun hj
   have hjE:decide (x≤j)=false:=by
    rw [decide_eq_false_iff_not]
    intro hle
    have h1:=List.all_eq_true.1 hyx j (List.mem_range.2 (Array.getElem?_eq_some_iff.1 hoj).1)
    rw [Bool.or_eq_true,decide_eq_true_iff] at h1
    rcases h1 with h1 | h1
    ·exact hjx (Nat.le_antisymm h1 hle)
    ·have:=waitsOn_ready h1 hj
     rw [hx0] at this;cases this
   refine wpOp_mono (fun a' w' k=>⟨fun _=>k.2.1 hjE,ih (l.setIfInBounds j true) a' w' (fun k2 ok h1 h2 h3 h4=>?_) (ready_mono hr (Ne.symm hji)) (hch2 hji) (by rw [getD_set_ne true hjx];exact hx0) k.1 (k.2.1 hjE) ?_⟩) (wpOp_putIf hoj (hfree j oj hoj hji (open_ l j hj) hapart) (fun cs b=>hsel i oi cs b hi) (fun cs b=>hsel j oj cs b hoj) hQ hy (H.2 j (ready_mono hj hji)))
   ·refine hfree k2 ok h1 h2 ?_ h4
    by_cases e:j=k2
    ·subst e;exact open_ l j hj
    ·rw [getD_set_ne true e] at h3;exact h3
   ·rw [Array.setIfInBounds_comm _ _ hji]
    exact k.2.2
theorem mq (i:Nat) (ms:List Nat) {oi:Oper} {v:Value} {n x:Nat} {l:Array Bool} {a:Act} {w:World} (hi:ops[i]? = some oi) (hS:S w)
  (h:OrdL P md ops Q S (fun j=>decide (x≤j)) n (l.setIfInBounds i true) (a.put oi.dst v) w) (hy:Region.wanted oi (yielded ops a.tmps)=true ∧ ∀ w,S w→(execOp a.eval oi).run P w=.ok (.value v) w:=by exact ⟨by rfl,by intro w' hSw;(try dsimp only at hSw);go_simp;try with_reducible rfl⟩) (hs:Region.noSelect ops=true:=by kernel_rfl) (hf:Region.free md ops l i=true:=by kernel_rfl) (hr:(Region.ready md ops l).contains i=true:=by kernel_rfl) (hch:waitsBy ops md l x i ms=true:=by kernel_rfl) (hyx:(List.range ops.size).all (fun y=>decide (y≤x) || waitsOn ops md y x)=true:=by kernel_rfl) (hx0:l.getD x true=false:=by kernel_rfl)
  (hQ:∀ c a w,Q (.panic c) (a.put oi.dst v) w→Q (.panic c) a w:=by exact fun _ _ _ h=>h):OrdL P md ops Q S (fun j=>decide (x≤j)) (n+1) l a w:=
 OrdM.first hi hyx (Region.noSelect_spec hs) hQ n l a w (Region.free_spec hi hf) (by simpa using hr) hch hx0 (Or.inl hy) hS h
theorem OrdM.begin {id x:Nat} {a:Act} {w:World} (S:World→Prop) (hm:P.follows .mixedOrders=true) (hS:S w.drew)
  (h:S w.drew→OrdL P .any ops Q S (fun j=>decide (x≤j)) ops.size (Array.replicate ops.size false) a w.drew):(Code.region id ops true).wp P Q a w:=
 wp_region_any hm (OrdL.any _ _ _ _ (h hS))
theorem OrdM.one {i x n:Nat} {oi:Oper} {l:Array Bool} {a:Act} {w:World} (hi:ops[i]? = some oi) (hr:Region.ready md ops l=[i])
  (h:∀ K':Act→World→Prop,Shut (∀ a w,S w→(S w→OrdL P md ops Q S (fun j=>decide (x≤j)) n (l.setIfInBounds i true) a w)→K' a w)→if Region.wanted oi (yielded ops a.tmps)=true then Oper.wp P oi a w K' Q else K' (a.put oi.dst undef) w):
  OrdL P md ops Q S (fun j=>decide (x≤j)) (n+1) l a w:=by
 refine ⟨fun e=>absurd (hr.symm.trans e) (by simp),fun j hj=>?_⟩
 rw [hr] at hj
 obtain rfl:j=i:=by simpa using hj
 exact wpOp_step hi (fun K' hK=>h K' (fun a w hS hW=>hK a w ⟨fun _=>hS,hW hS⟩))
theorem OrdM.ex {x n:Nat} (i:Nat) {oi:Oper} {l:Array Bool} {a:Act} {w:World} (hi:ops[i]? = some oi) (hx:decide (x≤i)=true) (hr:Region.ready md ops l=[i])
  (h:∀ K':Act→World→Prop,Shut (∀ a w,OrdL P md ops Q S (fun j=>decide (x≤j)) n (l.setIfInBounds i true) a w→K' a w)→if Region.wanted oi (yielded ops a.tmps)=true then Oper.wp P oi a w K' Q else K' (a.put oi.dst undef) w):
  OrdL P md ops Q S (fun j=>decide (x≤j)) (n+1) l a w:=by
 refine ⟨fun e=>absurd (hr.symm.trans e) (by simp),fun j hj=>?_⟩
 rw [hr] at hj
 obtain rfl:j=i:=by simpa using hj
 exact wpOp_step hi (fun K' hK=>h K' (fun a w hW=>hK a w ⟨fun e=>absurd (hx.symm.trans e) (by simp),hW⟩))
theorem OrdM.last {x n:Nat} (i:Nat) {oi:Oper} {l:Array Bool} {a:Act} {w:World} (hi:ops[i]? = some oi) (hx:decide (x≤i)=true) (hr:Region.ready md ops l=[i]) (hr2:Region.ready md ops (l.setIfInBounds i true)=[])
  (h:∀ K':Act→World→Prop,Shut (∀ a w,Q .normal a w→K' a w)→if Region.wanted oi (yielded ops a.tmps)=true then Oper.wp P oi a w K' Q else K' (a.put oi.dst undef) w):
  OrdL P md ops Q S (fun j=>decide (x≤j)) (n+1) l a w:=by
 refine ⟨fun e=>absurd (hr.symm.trans e) (by simp),fun j hj=>?_⟩
 rw [hr] at hj
 obtain rfl:j=i:=by simpa using hj
 refine wpOp_step hi (fun K' hK=>h K' (fun a w hQ=>hK a w ⟨fun e=>absurd (hx.symm.trans e) (by simp),?_⟩))
 cases n with
 | zero=>exact ⟨hr2,hQ⟩
 | succ n=>exact ⟨fun _=>hQ,by rw [hr2];simp⟩
/- The memory of tree.Copy: a list of values, a list of members, of which the first ones were copied. -/

def st5g (w:World) (g o:Nat) (u0 u1 u2 u3 u4:Value):World:=((((w.setCell ⟨g,o,none⟩ u0).setCell ⟨g,o+1,none⟩ u1).setCell ⟨g,o+2,none⟩ u2).setCell ⟨g,o+3,none⟩ u3).setCell ⟨g,o+4,none⟩ u4
theorem st5g_frx (w:World) (g o:Nat) (u0 u1 u2 u3 u4:Value):FrX g w (st5g w g o u0 u1 u2 u3 u4):=(((((FrX.refl g w).setCell rfl _).setCell rfl _).setCell rfl _).setCell rfl _).setCell rfl _
theorem st5g_blk {w:World} {g o:Nat} {cur:Array Value} {T:TypeId} (h:Blk w g cur T) (u0 u1 u2 u3 u4:Value):∃ cur',Blk (st5g w g o u0 u1 u2 u3 u4) g cur' T∧cur'.size=cur.size:=
 ⟨_,((((h.set o u0).set (o+1) u1).set (o+2) u2).set (o+3) u3).set (o+4) u4,by simp⟩
theorem st5g_size (w:World) (g o:Nat) (u0 u1 u2 u3 u4:Value):(st5g w g o u0 u1 u2 u3 u4).heap.size=w.heap.size:=by simp [st5g,World.setCell]
structure CpI (W:World) (g:Nat) (l:List JV) (S O:Nat→Prop) (i:Nat):Prop where
 blk:∃ cur,Blk W g cur 25∧l.length*5≤cur.size
 at_:∀ k (h:k<l.length),∃ C f C' f',VC W g (k*5) l[k] C f C' f'∧InV W (if k<i then S else O) l[k] (vA l[k] C f C' f')
structure CqI (W:World) (g:Nat) (m:List (List UInt8 × JV)) (S O:Nat→Prop) (i:Nat):Prop where
 blk:∃ cur,Blk W g cur 39∧m.length*6≤cur.size
 at_:∀ k (h:k<m.length),∃ C f C' f',m[k].1.length≤140737488355328∧W.cell? ⟨g,k*6,none⟩=some (.string ⟨m[k].1.toArray⟩)∧VC W g (k*6+1) m[k].2 C f C' f'∧InV W (if k<i then S else O) m[k].2 (vA m[k].2 C f C' f')
theorem ite_lt {S O:Nat→Prop} {w:World} {P:Prop} [Decidable P] (hS:∀ b,S b→b<w.heap.size) (hO:∀ b,O b→b<w.heap.size):∀ b,(if P then S else O) b→b<w.heap.size:=fun b hb=>by
 split at hb
 ·exact hS b hb
 ·exact hO b hb
theorem ite_ne {S O:Nat→Prop} {g:Nat} {P:Prop} [Decidable P] (hS:∀ b,S b→b≠g) (hO:∀ b,O b→b≠g):∀ b,(if P then S else O) b→b≠g:=fun b hb=>by
 split at hb
 ·exact hS b hb
 ·exact hO b hb
theorem CpI.keep {W W':World} {g:Nat} {l:List JV} {S O:Nat→Prop} {i:Nat} (h:CpI W g l S O i) (hf:Fr W W') (hS:∀ b,S b→b<W.heap.size) (hO:∀ b,O b→b<W.heap.size):CpI W' g l S O i:=by
 obtain ⟨cur,hb,hz⟩:=h.blk
 refine ⟨⟨cur,hb.keep hf,hz⟩,fun k hk=>?_⟩
 obtain ⟨C,f,C',f',h1,h2⟩:=h.at_ k hk
 exact ⟨C,f,C',f',h1.keep (fun j=>hf.cell hb.lt),h2.map (fun _ h=>h) (fun b o hb=>hf.cell (ite_lt hS hO b hb))⟩
theorem CqI.keep {W W':World} {g:Nat} {m:List (List UInt8 × JV)} {S O:Nat→Prop} {i:Nat} (h:CqI W g m S O i) (hf:Fr W W') (hS:∀ b,S b→b<W.heap.size) (hO:∀ b,O b→b<W.heap.size):CqI W' g m S O i:=by
 obtain ⟨cur,hb,hz⟩:=h.blk
 refine ⟨⟨cur,hb.keep hf,hz⟩,fun k hk=>?_⟩
 obtain ⟨C,f,C',f',h0,h00,h1,h2⟩:=h.at_ k hk
 exact ⟨C,f,C',f',h0,(hf.cell hb.lt).trans h00,h1.keep (fun j=>hf.cell hb.lt),h2.map (fun _ h=>h) (fun b o hb=>hf.cell (ite_lt hS hO b hb))⟩
theorem CpI.frx {W W':World} {g X:Nat} {l:List JV} {S O:Nat→Prop} {i:Nat} (h:CpI W g l S O i) (hf:FrX X W W') (hg:g≠X) (hS:∀ b,S b→b<W.heap.size) (hO:∀ b,O b→b<W.heap.size) (hS2:∀ b,S b→b≠X) (hO2:∀ b,O b→b≠X):CpI W' g l S O i:=by
 obtain ⟨cur,hb,hz⟩:=h.blk
 refine ⟨⟨cur,hb.frx hf hg,hz⟩,fun k hk=>?_⟩
 obtain ⟨C,f,C',f',h1,h2⟩:=h.at_ k hk
 exact ⟨C,f,C',f',h1.keep (fun j=>hf.cell hb.lt hg),h2.map (fun _ h=>h) (fun b o hb=>hf.cell (ite_lt hS hO b hb) (ite_ne hS2 hO2 b hb))⟩
theorem CqI.frx {W W':World} {g X:Nat} {m:List (List UInt8 × JV)} {S O:Nat→Prop} {i:Nat} (h:CqI W g m S O i) (hf:FrX X W W') (hg:g≠X) (hS:∀ b,S b→b<W.heap.size) (hO:∀ b,O b→b<W.heap.size) (hS2:∀ b,S b→b≠X) (hO2:∀ b,O b→b≠X):CqI W' g m S O i:=by
 obtain ⟨cur,hb,hz⟩:=h.blk
 refine ⟨⟨cur,hb.frx hf hg,hz⟩,fun k hk=>?_⟩
 obtain ⟨C,f,C',f',h0,h00,h1,h2⟩:=h.at_ k hk
 exact ⟨C,f,C',f',h0,(hf.cell hb.lt hg).trans h00,h1.keep (fun j=>hf.cell hb.lt hg),h2.map (fun _ h=>h) (fun b o hb=>hf.cell (ite_lt hS hO b hb) (ite_ne hS2 hO2 b hb))⟩
theorem CpI.more {W:World} {g:Nat} {l:List JV} {S S' O:Nat→Prop} {i:Nat} (h:CpI W g l S O i) (hS:∀ b,S b→S' b):CpI W g l S' O i:=⟨h.blk,fun k hk=>by
 obtain ⟨C,f,C',f',h1,h2⟩:=h.at_ k hk
 exact ⟨C,f,C',f',h1,h2.more (fun b hb=>by split at hb <;> split <;> first | exact hS b hb | exact hb | (exfalso;omega))⟩⟩
theorem CqI.more {W:World} {g:Nat} {m:List (List UInt8 × JV)} {S S' O:Nat→Prop} {i:Nat} (h:CqI W g m S O i) (hS:∀ b,S b→S' b):CqI W g m S' O i:=⟨h.blk,fun k hk=>by
 obtain ⟨C,f,C',f',h0,h00,h1,h2⟩:=h.at_ k hk
 exact ⟨C,f,C',f',h0,h00,h1,h2.more (fun b hb=>by split at hb <;> split <;> first | exact hS b hb | exact hb | (exfalso;omega))⟩⟩
theorem CpI.step {W:World} {g:Nat} {l:List JV} {S O:Nat→Prop} {i:Nat} (h:CpI W g l S O i) (hi:i<l.length) (hS:∀ b,S b→b≠g) (hO:∀ b,O b→b≠g) {C:Option Addr} {f:Nat} {C':Option Addr} {f':Nat} (hx:InV W S l[i] (vA l[i] C f C' f')):
  CpI (st5g W g (i*5) (.int .i64 l[i].kd) (.int .i64 l[i].nm) (.string ⟨l[i].tx.toArray⟩) (.slice C l[i].ls.length f) (.slice C' l[i].ms.length f')) g l S O (i+1):=by
 obtain ⟨cur,hb,hz⟩:=h.blk
 have hat:=put5g_at W g (i*5) (.int .i64 l[i].kd) (.int .i64 l[i].nm) (.string ⟨l[i].tx.toArray⟩) (.slice C l[i].ls.length f) (.slice C' l[i].ms.length f') (fun j hj=>⟨_,(hb.cell (i*5+j)).trans (Array.getElem?_eq_getElem (by omega))⟩)
 have hot:=put5g_other W g (i*5) (.int .i64 l[i].kd) (.int .i64 l[i].nm) (.string ⟨l[i].tx.toArray⟩) (.slice C l[i].ls.length f) (.slice C' l[i].ms.length f')
 obtain ⟨cur',hb',hz'⟩:=st5g_blk (o:=i*5) hb (.int .i64 l[i].kd) (.int .i64 l[i].nm) (.string ⟨l[i].tx.toArray⟩) (.slice C l[i].ls.length f) (.slice C' l[i].ms.length f')
 unfold st5g at hb' ⊢
 generalize (((((W.setCell ⟨g,i*5,none⟩ (.int .i64 l[i].kd)).setCell ⟨g,i*5+1,none⟩ (.int .i64 l[i].nm)).setCell ⟨g,i*5+2,none⟩ (.string ⟨l[i].tx.toArray⟩)).setCell ⟨g,i*5+3,none⟩ (.slice C l[i].ls.length f)).setCell ⟨g,i*5+4,none⟩ (.slice C' l[i].ms.length f'))=W9 at hat hot hb' ⊢
 have hne:∀ b o,b≠g→W9.cell? ⟨b,o,none⟩=W.cell? ⟨b,o,none⟩:=fun b o hb=>hot _ (fun j _ e=>by injection e with e _ _;exact hb e.symm)
 refine ⟨⟨cur',hb',by omega⟩,fun k hk=>?_⟩
 by_cases e:k=i
 ·subst e
  rw [if_pos (by omega)]
  exact ⟨C,f,C',f',⟨hat.1,hat.2.1,hat.2.2.1,hat.2.2.2.1,hat.2.2.2.2⟩,hx.map (fun _ h=>h) (fun b o hb=>hne b o (hS b hb))⟩
 ·obtain ⟨D,d,D',d',h1,h2⟩:=h.at_ k hk
  have hcell:∀ j,j<5→W9.cell? ⟨g,k*5+j,none⟩=W.cell? ⟨g,k*5+j,none⟩:=fun j hj=>hot _ (fun j' hj' e=>by injection e;omega)
  have hs:(if k<i+1 then S else O)=(if k<i then S else O):=by
   by_cases hki:k<i
   ·rw [if_pos hki,if_pos (by omega)]
   ·rw [if_neg hki,if_neg (by omega)]
  rw [hs]
  exact ⟨D,d,D',d',⟨(hcell 0 (by omega)).trans h1.1,(hcell 1 (by omega)).trans h1.2.1,(hcell 2 (by omega)).trans h1.2.2.1,(hcell 3 (by omega)).trans h1.2.2.2.1,(hcell 4 (by omega)).trans h1.2.2.2.2⟩,h2.map (fun _ h=>h) (fun b o hb=>hne b o (ite_ne hS hO b hb))⟩
theorem CqI.step {W:World} {g:Nat} {m:List (List UInt8 × JV)} {S O:Nat→Prop} {i:Nat} (h:CqI W g m S O i) (hi:i<m.length) (hS:∀ b,S b→b≠g) (hO:∀ b,O b→b≠g) {C:Option Addr} {f:Nat} {C':Option Addr} {f':Nat} (hx:InV W S m[i].2 (vA m[i].2 C f C' f')):
  CqI (st5g W g (i*6+1) (.int .i64 m[i].2.kd) (.int .i64 m[i].2.nm) (.string ⟨m[i].2.tx.toArray⟩) (.slice C m[i].2.ls.length f) (.slice C' m[i].2.ms.length f')) g m S O (i+1):=by
 obtain ⟨cur,hb,hz⟩:=h.blk
 have hat:=put5g_at W g (i*6+1) (.int .i64 m[i].2.kd) (.int .i64 m[i].2.nm) (.string ⟨m[i].2.tx.toArray⟩) (.slice C m[i].2.ls.length f) (.slice C' m[i].2.ms.length f') (fun j hj=>⟨_,(hb.cell (i*6+1+j)).trans (Array.getElem?_eq_getElem (by omega))⟩)
 have hot:=put5g_other W g (i*6+1) (.int .i64 m[i].2.kd) (.int .i64 m[i].2.nm) (.string ⟨m[i].2.tx.toArray⟩) (.slice C m[i].2.ls.length f) (.slice C' m[i].2.ms.length f')
 obtain ⟨cur',hb',hz'⟩:=st5g_blk (o:=i*6+1) hb (.int .i64 m[i].2.kd) (.int .i64 m[i].2.nm) (.string ⟨m[i].2.tx.toArray⟩) (.slice C m[i].2.ls.length f) (.slice C' m[i].2.ms.length f')
 unfold st5g at hb' ⊢
 generalize (((((W.setCell ⟨g,i*6+1,none⟩ (.int .i64 m[i].2.kd)).setCell ⟨g,i*6+1+1,none⟩ (.int .i64 m[i].2.nm)).setCell ⟨g,i*6+1+2,none⟩ (.string ⟨m[i].2.tx.toArray⟩)).setCell ⟨g,i*6+1+3,none⟩ (.slice C m[i].2.ls.length f)).setCell ⟨g,i*6+1+4,none⟩ (.slice C' m[i].2.ms.length f'))=W9 at hat hot hb' ⊢
 have hne:∀ b o,b≠g→W9.cell? ⟨b,o,none⟩=W.cell? ⟨b,o,none⟩:=fun b o hb=>hot _ (fun j _ e=>by injection e with e _ _;exact hb e.symm)
 have hnm:∀ k,W9.cell? ⟨g,k*6,none⟩=W.cell? ⟨g,k*6,none⟩:=fun k=>hot _ (fun j' hj' e=>by injection e;omega)
 refine ⟨⟨cur',hb',by omega⟩,fun k hk=>?_⟩
 by_cases e:k=i
 ·subst e
  rw [if_pos (by omega)]
  obtain ⟨D,d,D',d',h0,h00,_,_⟩:=h.at_ k hk
  exact ⟨C,f,C',f',h0,(hnm k).trans h00,⟨hat.1,hat.2.1,hat.2.2.1,hat.2.2.2.1,hat.2.2.2.2⟩,hx.map (fun _ h=>h) (fun b o hb=>hne b o (hS b hb))⟩
 ·obtain ⟨D,d,D',d',h0,h00,h1,h2⟩:=h.at_ k hk
  have hcell:∀ j,j<5→W9.cell? ⟨g,k*6+1+j,none⟩=W.cell? ⟨g,k*6+1+j,none⟩:=fun j hj=>hot _ (fun j' hj' e=>by injection e;omega)
  have hs:(if k<i+1 then S else O)=(if k<i then S else O):=by
   by_cases hki:k<i
   ·rw [if_pos hki,if_pos (by omega)]
   ·rw [if_neg hki,if_neg (by omega)]
  rw [hs]
  exact ⟨D,d,D',d',h0,(hnm k).trans h00,⟨(hcell 0 (by omega)).trans h1.1,(hcell 1 (by omega)).trans h1.2.1,(hcell 2 (by omega)).trans h1.2.2.1,(hcell 3 (by omega)).trans h1.2.2.2.1,(hcell 4 (by omega)).trans h1.2.2.2.2⟩,h2.map (fun _ h=>h) (fun b o hb=>hne b o (ite_ne hS hO b hb))⟩
theorem VsB.cp {w:World} {Z K n c:Nat} {A:Option Addr} {l:List JV} (h:VsB w Z K (.slice A n c) l) (h0:0<l.length) (S:Nat→Prop):∃ (g:Nat) (O:Nat→Prop),A=some ⟨g,0,none⟩∧K≤g∧(∀ b,O b→b<w.heap.size∧b≠g∧(b<Z∨K≤b))∧CpI w g l S O 0:=by
 obtain ⟨hK,xs,hvb,hlen,hin⟩:=id h
 obtain ⟨_,⟨_,hn⟩ | ⟨g,cap,cur,hv,hb,hg,hc,hm,hs,ht⟩⟩:=hvb.1
 ·omega
 ·injection hv with e1 _ _
  refine ⟨g,InB Z K w (.slice A n c),e1,hb,fun b hb2=>?_,⟨cur,hg,by rw [hs,← hlen];exact Nat.mul_le_mul_right _ hc⟩,fun k hk=>?_⟩
  ·have h1:=InB.ok hK hvb hb2
   exact ⟨h1.1,fun e=>h1.2 (by rw [e1,e];rfl),by rcases hb2 with hb2 | hb2;exact .inl hb2;exact .inr hb2.1⟩
  have hx:k<xs.length:=by omega
  have hv2:=hin k hx hk
  obtain ⟨C,f,C',f',e⟩:=hv2.shape
  have hat:∀ j u,j<5→(xs[k].cells.toList)[j]? = some u→w.cell? ⟨g,k*5+j,none⟩=some u:=fun j u hj hu=>by
   have hm2:=vcs_at hvb.2 hx hj
   rw [hu] at hm2
   rw [cell_of_row w g _ cur _ (0,0) hg]
   rw [← ht,List.getElem?_take] at hm2
   split at hm2
   ·first | exact hm2 | (rw [Array.getElem?_toList] at hm2;exact hm2) | simpa using hm2
   ·cases hm2
  rw [e] at hat hv2
  rw [if_neg (by omega)]
  exact ⟨C,f,C',f',⟨hat 0 _ (by omega) rfl,hat 1 _ (by omega) rfl,hat 2 _ (by omega) rfl,hat 3 _ (by omega) rfl,hat 4 _ (by omega) rfl⟩,hv2⟩
theorem MsB.cq {w:World} {Z K n c:Nat} {A:Option Addr} {m:List (List UInt8 × JV)} (h:MsB w Z K (.slice A n c) m) (h0:0<m.length) (S:Nat→Prop):∃ g,A=some ⟨g,0,none⟩∧K≤g∧CqI w g m S (Lo Z) 0:=by
 obtain ⟨_,xs,hvb,hlen,hin⟩:=id h
 obtain ⟨_,⟨_,hn⟩ | ⟨g,cap,cur,hv,hb,hg,hc,hm,hs,ht⟩⟩:=hvb.1
 ·omega
 ·injection hv with e1 _ _
  refine ⟨g,e1,hb,⟨cur,hg,by rw [hs,← hlen];exact Nat.mul_le_mul_right _ hc⟩,fun k hk=>?_⟩
  have hx:k<xs.length:=by omega
  obtain ⟨e0,hnl,hv2⟩:=hin k hx hk
  obtain ⟨C,f,C',f',e⟩:=hv2.shape
  have hat:∀ j u,j<6→(Value.string ⟨xs[k].1.toArray⟩::xs[k].2.cells.toList)[j]? = some u→w.cell? ⟨g,k*6+j,none⟩=some u:=fun j u hj hu=>by
   have hm2:=mcs_at hvb.2 hx hj
   rw [hu] at hm2
   rw [cell_of_row w g _ cur _ (0,0) hg]
   rw [← ht,List.getElem?_take] at hm2
   split at hm2
   ·first | exact hm2 | (rw [Array.getElem?_toList] at hm2;exact hm2) | simpa using hm2
   ·cases hm2
  rw [e] at hat hv2
  rw [if_neg (by omega)]
  have a0:=hat 0 _ (by omega) rfl
  rw [e0] at a0
  exact ⟨C,f,C',f',hnl,a0,⟨hat 1 _ (by omega) rfl,hat 2 _ (by omega) rfl,hat 3 _ (by omega) rfl,hat 4 _ (by omega) rfl,hat 5 _ (by omega) rfl⟩,hv2⟩
theorem CpI.lsC {W:World} {g:Nat} {l:List JV} {S O S':Nat→Prop} (h:CpI W g l S O l.length) (hg:S' g) (hS:∀ b,S b→S' b):LsC W S' (some ⟨g,0,none⟩) l:=fun i hi=>by
 obtain ⟨C,f,C',f',h1,h2⟩:=h.at_ i hi
 rw [if_pos hi] at h2
 exact ⟨g,0,C,f,C',f',rfl,hg,by rw [Nat.zero_add];exact h1,h2.more hS⟩
theorem CqI.msC {W:World} {g:Nat} {m:List (List UInt8 × JV)} {S O S':Nat→Prop} (h:CqI W g m S O m.length) (hg:S' g) (hS:∀ b,S b→S' b):MsC W S' (some ⟨g,0,none⟩) m:=fun i hi=>by
 obtain ⟨C,f,C',f',h0,h00,h1,h2⟩:=h.at_ i hi
 rw [if_pos hi] at h2
 exact ⟨g,0,C,f,C',f',rfl,hg,h0,by rw [Nat.zero_add];exact h00,by rw [Nat.zero_add];exact h1,h2.more hS⟩
theorem InV.both {W:World} {S:Nat→Prop} {l:List JV} {m:List (List UInt8 × JV)} {A:Option Addr} {c:Nat} {A':Option Addr} {c':Nat} (hl:LsC W S A l) (hm:MsC W S A' m) (l63:l.length≤140737488355328) (m63:m.length≤140737488355328) (k n:Int) (s:List UInt8)
  (hn1:-9223372036854775808≤n) (hn2:n≤9223372036854775807) (hk1:-9223372036854775808≤k) (hk2:k≤9223372036854775807) (hs:s.length≤140737488355328):
  InV W S (.mk k n s l m) (.agg #[.int .i64 k,.int .i64 n,.string ⟨s.toArray⟩,.slice A l.length c,.slice A' m.length c']):=by
 refine InV.mk k n s l m A A' c c' (fun i j=>match A with | some a=>(W.cell? ⟨a.block,a.off+i*5+j,none⟩).getD (.int .i64 0) | none=>.int .i64 0) (fun i j=>match A' with | some a=>(W.cell? ⟨a.block,a.off+i*6+j,none⟩).getD (.int .i64 0) | none=>.int .i64 0) hn1 hn2 hk1 hk2 hs l63 m63 (fun i hi=>?_) (fun h0=>?_) (fun i hi=>?_) (fun h0=>?_)
 ·obtain ⟨b,o,B,d,B',d',rfl,hb,⟨c1,c2,c3,c4,c5⟩,hv⟩:=hl i hi
  simp only [Nat.add_zero,c1,c2,c3,c4,c5,Option.getD_some]
  exact hv
 ·obtain ⟨b,o,B,d,B',d',rfl,hb,_⟩:=hl 0 h0
  refine ⟨b,o,rfl,hb,fun i j hi hj=>?_⟩
  obtain ⟨b2,o2,B,d,B',d',he,_,⟨c1,c2,c3,c4,c5⟩,_⟩:=hl i hi
  injection he with he;injection he with e1 e2 _
  subst e1;subst e2
  rcases (by omega:j=0∨j=1∨j=2∨j=3∨j=4) with rfl | rfl | rfl | rfl | rfl
  ·simp only [Nat.add_zero,c1,Option.getD_some]
  ·simp only [c2,Option.getD_some]
  ·simp only [c3,Option.getD_some]
  ·simp only [c4,Option.getD_some]
  ·simp only [c5,Option.getD_some]
 ·obtain ⟨b,o,B,d,B',d',rfl,hb,_,_,⟨c1,c2,c3,c4,c5⟩,hv⟩:=hm i hi
  simp only [Nat.add_assoc] at c1 c2 c3 c4 c5 ⊢
  simp only [c1,c2,c3,c4,c5,Option.getD_some]
  exact hv
 ·obtain ⟨b,o,B,d,B',d',rfl,hb,_⟩:=hm 0 h0
  refine ⟨b,o,rfl,hb,fun i hi=>?_⟩
  obtain ⟨b2,o2,B,d,B',d',he,_,hnl,c0,⟨c1,c2,c3,c4,c5⟩,_⟩:=hm i hi
  injection he with he;injection he with e1 e2 _
  subst e1;subst e2
  refine ⟨by simp only [Nat.add_zero,c0,Option.getD_some],hnl,fun j hj=>?_⟩
  simp only [Nat.add_assoc] at c0 c1 c2 c3 c4 c5 ⊢
  rcases (by omega:j=0∨j=1∨j=2∨j=3∨j=4∨j=5) with rfl | rfl | rfl | rfl | rfl | rfl
  ·simp only [Nat.add_zero,c0,Option.getD_some]
  ·simp only [c1,Option.getD_some]
  ·simp only [c2,Option.getD_some]
  ·simp only [c3,Option.getD_some]
  ·simp only [c4,Option.getD_some]
  ·simp only [c5,Option.getD_some]
/- slices.Clone at values. -/

theorem Cp.nvM_len:∀ m:List (List UInt8 × JV),m.length≤Rd.nvM m
 | []=>by simp
 | p::m=>by rw [Rd.nvM_cons,List.length_cons];have:=Cp.nvM_len m;have:=Rd.nv_pos p.2;omega
theorem vsb_frC {w a b:World} {Z K:Nat} {v:Value} {l:List JV} (hf:Fr w a) (hv:VsB a Z K v l) (hK:w.heap.size≤K) (hg:a.grownBy b v.ownBlock):Fr w b:=
 Below.grown hf hg hf.size (fun k hk=>by have:=(hv.own_lt hk).1;omega)
theorem VsB.empty (w:World) {Z:Nat} (hZ:Z≤w.heap.size):VsB (w.alloc (.cells #[] 25)) Z w.heap.size (.slice (some ⟨w.heap.size,0,none⟩) 0 0) []:=
 ⟨⟨hZ,by simp⟩,[],⟨World.ownsRow_lit (base:=w.heap.size) (size:=5) (e:=25) w #[] 0 (Nat.le_refl _) (by unfold maxLen;omega) (by simp),by simp⟩,rfl,fun i h=>absurd h (by simp)⟩
theorem clone_v_is (l:List JV) (A:Option Addr) (c:Nat) (w:World) (Z:Nat) (hZ:Z≤w.heap.size) (h:LsC w (Lo Z) A l) (hl:l.length*80≤140737488355328):
  Calls Tryz.prog 40 #[.slice A l.length c] w fun e w'=>∃ v',e=.returned v'∧VsB w' Z w.heap.size v' l∧Fr w w':=by
 have hl':(l.length:Int)≤140737488355328:=by omega
 cases A with
 | none=>
  have hm:l=[]:=by
   cases l with
   | nil=>rfl
   | cons p m=>obtain ⟨_,_,_,_,_,_,he,_⟩:=h 0 (by simp);cases he
  subst hm
  have hq:=fun W=>Lib.run_eql_slice_nil (P:=Tryz.prog) W 22 25 none 0 c 0 0 Tryz.underlying22
  clear h
  go_enter Tryz.func40,Tryz.ntmps40
  go_wp2_with fail
  go_ret
  exact ⟨_,rfl,VsB.none_ w ⟨hZ,Nat.le_refl _⟩,Fr.refl w⟩
 | some ad=>
  have hk:(0+l.length)*80≤140737488355328:=by omega
  have HE:Hid (VsB (w.alloc (.cells #[] 25)) Z w.heap.size (.slice (some ⟨w.heap.size,0,none⟩) 0 0) []):=VsB.empty w hZ
  have HC:Hid (LsC (w.alloc (.cells #[] 25)) (InB Z w.heap.size (w.alloc (.cells #[] 25)) (.slice (some ⟨w.heap.size,0,none⟩) 0 0)) (some ad) l):=(h.keep hZ ((Fr.refl w).alloc _)).map (fun b hb=>.inl hb) (fun _ _ _=>rfl)
  have hq:=fun W=>Lib.run_eql_slice_nil (P:=Tryz.prog) W 22 25 (some ad) l.length c 0 0 Tryz.underlying22
  clear h
  go_enter Tryz.func40,Tryz.ntmps40
  go_wp2_with (at_builtin;refine wpl_vB rfl (.tmp 5) (.tmp 6) rfl Z w.heap.size _ [] rfl HE.out (some ad) c l.length l rfl rfl HC.out (by simpa using hk) ?_;intro v4 w4 hv4 hg4;have hv4:VsB w4 Z w.heap.size v4 l:=hv4;obtain ⟨a4,c4,rfl⟩:=hv4.is_slice;have HF4:=Lib.hid (vsb_frC ((Fr.refl w).alloc _) HE.out (Nat.le_refl _) hg4);have HV4:=Lib.hid hv4;clear hv4 hg4)
  go_ret
  exact ⟨_,rfl,HV4.out,HF4.out⟩
/- tree.Copy: the same value, in new memory. -/

theorem Fr.thenY {w W W':World} {R:Nat} (h:Fr w W) (hR:w.heap.size≤R) (hR2:R≤W.heap.size) (hx:FrX R W W'):Fr w W':=Below.trans h ((hx.below hR2).mono hR)
def CpAt (u:JV):Prop:=∀ (x:Value) (w:World),InV w (Lo w.heap.size) u x→Rd.nv u≤1048576→Calls Tryz.prog 16 #[x] w fun e w'=>(∃ (C:Option Addr) (f:Nat) (C':Option Addr) (f':Nat),e=.returned (vA u C f C' f')∧InV w' (Be w.heap.size w'.heap.size) u (vA u C f C' f'))∧Fr w w'
def CpQ (u:JV):Prop:=∀ (x:Value) (w:World),InV w (Lo w.heap.size) u x→Rd.nv u≤1048576→Calls Tryz.prog 16 #[x] w fun e w'=>(∃ (C:Option Addr) (f:Nat) (C':Option Addr) (f':Nat),e=.returned (vA u C f C' f')∧InV w' (Be w.heap.size w'.heap.size) u (vA u C f C' f')∧(0<u.ms.length → ∃ g,C'=some ⟨g,0,none⟩∧w.heap.size≤g∧CqI w' g u.ms (fun b=>Be w.heap.size w'.heap.size b∧b≠g) (Lo w.heap.size) u.ms.length))∧Fr w w'
theorem CpQ.weak {u:JV} (h:CpQ u):CpAt u:=fun x w hx hn=>(h x w hx hn).mono (by
 rintro e w' ⟨⟨C,f,C',f',rfl,hi,_⟩,hf⟩
 exact ⟨⟨C,f,C',f',rfl,hi⟩,hf⟩)
theorem be_lt {B:Nat} {W:World}:∀ b,Be B W.heap.size b→b<W.heap.size:=fun b hb=>hb.2

theorem copy_step (u:JV) (ihl:∀ x∈u.ls,CpAt x) (ihm:∀ p∈u.ms,CpAt p.2):CpQ u:=by
 intro x w hx hn
 obtain ⟨A,c,A',c',rfl,hls,hms⟩:=hx.open_
 obtain ⟨⟨f1,f2⟩,⟨f3,f4⟩,f5,f6,f7⟩:=hx.facts
 have hnu:=Pt.nv_eq u
 have hll:=Pt.nvL_len u.ls
 have hml:=Cp.nvM_len u.ms
 have hll2:u.ls.length*80≤140737488355328:=by omega
 have hml2:u.ms.length*96≤140737488355328:=by omega
 have hll3:(u.ls.length:Int)≤1048576:=by omega
 have hml3:(u.ms.length:Int)≤1048576:=by omega
 have HLS:=Lib.hid hls
 have HMS:=Lib.hid hms
 have HFA:=Lib.hid (show (-9223372036854775808≤u.nm∧u.nm≤9223372036854775807)∧(-9223372036854775808≤u.kd∧u.kd≤9223372036854775807)∧u.tx.length≤140737488355328 from ⟨⟨f1,f2⟩,⟨f3,f4⟩,f5⟩)
 have HNL:Hid (∀ x∈u.ls,Rd.nv x≤1048576):=Lib.hid (fun x hx=>by have:=Pt.nvL_mem hx;omega)
 have HNM:Hid (∀ p∈u.ms,Rd.nv p.2≤1048576):=Lib.hid (fun p hp=>by have:=Pt.nvM_mem hp;omega)
 have HIL:=Lib.hid ihl
 have HIM:=Lib.hid ihm
 clear hx hn hls hms f1 f2 f3 f4 f5 f6 f7 hnu hll hml ihl ihm
 show Calls Tryz.prog 16 #[.agg #[.int .i64 u.kd,.int .i64 u.nm,.string ⟨u.tx.toArray⟩,.slice A u.ls.length c,.slice A' u.ms.length c']] w _
 go_enter Tryz.func16,Tryz.ntmps16
 go_upto_region 1 with fail
 have hx0:Blk ((w.alloc (.cells #[.int .i64 u.kd,.int .i64 u.nm,.string ⟨u.tx.toArray⟩,.slice A u.ls.length c,.slice A' u.ms.length c'] 25)).alloc (.cells #[.int .i64 0,.int .i64 0,.string ⟨#[]⟩,.slice none 0 0,.slice none 0 0] 25)) w.heap.size #[.int .i64 u.kd,.int .i64 u.nm,.string ⟨u.tx.toArray⟩,.slice A u.ls.length c,.slice A' u.ms.length c'] 25:=(Blk.made w _ _).keep ((Fr.refl _).alloc _)
 have hy0:Blk ((w.alloc (.cells #[.int .i64 u.kd,.int .i64 u.nm,.string ⟨u.tx.toArray⟩,.slice A u.ls.length c,.slice A' u.ms.length c'] 25)).alloc (.cells #[.int .i64 0,.int .i64 0,.string ⟨#[]⟩,.slice none 0 0,.slice none 0 0] 25)) (w.heap.size+1) #[.int .i64 0,.int .i64 0,.string ⟨#[]⟩,.slice none 0 0,.slice none 0 0] 25:=boxz (Blk.made (w.alloc _) _ _)
 have hf0:Fr w ((w.alloc (.cells #[.int .i64 u.kd,.int .i64 u.nm,.string ⟨u.tx.toArray⟩,.slice A u.ls.length c,.slice A' u.ms.length c'] 25)).alloc (.cells #[.int .i64 0,.int .i64 0,.string ⟨#[]⟩,.slice none 0 0,.slice none 0 0] 25)):=((Fr.refl w).alloc _).alloc _
 generalize ((w.alloc (.cells #[.int .i64 u.kd,.int .i64 u.nm,.string ⟨u.tx.toArray⟩,.slice A u.ls.length c,.slice A' u.ms.length c'] 25)).alloc (.cells #[.int .i64 0,.int .i64 0,.string ⟨#[]⟩,.slice none 0 0,.slice none 0 0] 25))=W1 at hx0 hy0 hf0 ⊢
 generalize hY:w.heap.size+1=X2 at hy0 ⊢
 obtain ⟨X1,hX⟩:∃ X,w.heap.size=X:=⟨_,rfl⟩
 rw [hX] at hx0 ⊢
 have hX1:w.heap.size≤X1:=Nat.le_of_eq hX
 have hX12:X1<X2:=by omega
 clear hX hY
 have HX1:=Lib.hid hx0
 have HX2:=Lib.hid hy0
 have HF0:=Lib.hid hf0
 have hX2W:=hy0.lt
 have HSW:Hid (∀ W,Fr W1 W→W.cell? ⟨X1,3,none⟩=some (.slice A u.ls.length c)∧W.cell? ⟨X1,4,none⟩=some (.slice A' u.ms.length c')):=Lib.hid (fun W hW=>by
  have a:=HX1.out.keep hW
  exact ⟨a.cell 3,a.cell 4⟩)
 have HCV:Hid (∀ W,Fr W1 W→Calls Tryz.prog 40 #[.slice A u.ls.length c] W fun e w'=>∃ v',e=.returned v'∧VsB w' w.heap.size W.heap.size v' u.ls∧Fr W w'):=Lib.hid (fun W hW=>clone_v_is u.ls A c W w.heap.size (Nat.le_trans HF0.out.size hW.size) (HLS.out.keep (Nat.le_refl _) (HF0.out.trans hW)) hll2)
 have HCM:Hid (∀ W,Fr W1 W→Calls Tryz.prog 36 #[.slice A' u.ms.length c'] W fun e w'=>∃ v',e=.returned v'∧MsB w' w.heap.size W.heap.size v' u.ms∧Fr W w'):=Lib.hid (fun W hW=>clone_m_is u.ms A' c' W w.heap.size (Nat.le_trans HF0.out.size hW.size) (HMS.out.keep (Nat.le_refl _) (HF0.out.trans hW)) hml2)
 clear hx0 hy0 hf0
 go_upto_region 1 with fail
 refine OrdM.begin (x:=7) (fun W=>W.cell? ⟨X1,3,none⟩=some (.slice A u.ls.length c)∧W.cell? ⟨X1,4,none⟩=some (.slice A' u.ms.length c')) (by kernel_rfl) ?_ (fun hH=>?_)
 ·exact HSW.out _ (Fr.refl _).drew
 refine mq 0 [1,2] rfl hH ?_
 try simp only [Act.put,fl]
 refine mq 1 [2] rfl hH ?_
 try simp only [Act.put,fl]
 refine mq 3 [4,5] rfl hH ?_
 try simp only [Act.put,fl]
 refine mq 4 [5] rfl hH ?_
 try simp only [Act.put,fl]
 refine OrdM.one (i:=2) rfl (by kernel_rfl) (fun K hK=>?_)
 (go_simp;go_at_call 40;refine (HCV.out _ (Fr.refl W1).drew).mono ?_;rintro e w2 ⟨v2,rfl,hv2,hf⟩;obtain ⟨A2,c2,rfl⟩:=hv2.is_slice;have HV2:=Lib.hid hv2;have HF2:Hid (Fr W1 w2):=Lib.hid ((Fr.refl W1).drew.trans hf);clear hv2 hf)
 refine hK.out _ _ (HSW.out _ HF2.out) (fun hH2=>?_)
 clear hK K
 try simp only [Act.put,fl]
 refine mq 6 [] rfl hH2 ?_
 try simp only [Act.put,fl]
 refine OrdM.one (i:=5) rfl (by kernel_rfl) (fun K hK=>?_)
 (go_simp;go_at_call 36;refine (HCM.out _ HF2.out).mono ?_;rintro e w3 ⟨v3,rfl,hv3,hf⟩;obtain ⟨A3,c3,rfl⟩:=hv3.is_slice;have HV3:=Lib.hid hv3;have HF3:Hid (Fr w2 w3):=Lib.hid hf;clear hv3 hf)
 refine hK.out _ _ (HSW.out _ (HF2.out.trans HF3.out)) (fun hH3=>?_)
 clear hK K
 try simp only [Act.put,fl]
 have hx3:=HX1.out.keep (HF2.out.trans HF3.out)
 obtain ⟨⟨y0,y1,y2,y3,y4⟩,yf0,yf1,yf2,yf3,yf4⟩:=box5 hx3
 refine OrdM.ex 7 rfl (by rfl) (by kernel_rfl) (fun K hK=>?_)
 go_simp
 refine hK.out _ _ ?_
 clear hK K
 try simp only [Act.put,fl]
 refine OrdM.ex 8 rfl (by rfl) (by kernel_rfl) (fun K hK=>?_)
 go_simp
 refine hK.out _ _ ?_
 clear hK K
 try simp only [Act.put,fl]
 clear y0 y1 y2 y3 y4 yf0 yf1 yf2 yf3 yf4
 have hx4:=hx3.set 3 (.slice A2 u.ls.length c2)
 obtain ⟨⟨y0,y1,y2,y3,y4⟩,yf0,yf1,yf2,yf3,yf4⟩:=box5 hx4
 refine OrdM.last 9 rfl (by rfl) (by kernel_rfl) (by kernel_rfl) (fun K hK=>?_)
 go_simp
 refine hK.out _ _ ?_
 clear hK K
 try simp only [Act.put,fl]
 have hx5:=hx4.set 4 (.slice A3 u.ms.length c3)
 have hd1:W1.drew.heap.size=W1.heap.size:=rfl
 have hs1:=HF2.out.size
 have hs2:=HF3.out.size
 have hfx:FrX X1 w3 ((w3.setCell ⟨X1,3,none⟩ (.slice A2 u.ls.length c2)).setCell ⟨X1,4,none⟩ (.slice A3 u.ms.length c3)):=((FrX.refl X1 w3).setCell (p:=⟨X1,3,none⟩) rfl _).setCell (p:=⟨X1,4,none⟩) rfl _
 have hv2:=(HV2.out.keep HF3.out).frx hX1 (by omega) hfx
 have hv3:=HV3.out.frx hX1 (by omega) hfx
 have hy5:=((HX2.out.keep (HF2.out.trans HF3.out)).frx hfx (by omega))
 have hf5:Fr w ((w3.setCell ⟨X1,3,none⟩ (.slice A2 u.ls.length c2)).setCell ⟨X1,4,none⟩ (.slice A3 u.ms.length c3)):=Fr.thenY ((HF0.out.trans HF2.out).trans HF3.out) hX1 (by omega) hfx
 have hs5:w3.heap.size=((w3.setCell ⟨X1,3,none⟩ (.slice A2 u.ls.length c2)).setCell ⟨X1,4,none⟩ (.slice A3 u.ms.length c3)).heap.size:=by simp [World.setCell]
 have HFX:=Lib.hid hfx
 clear y0 y1 y2 y3 y4 yf0 yf1 yf2 yf3 yf4 hx3 hx4 hfx hH hH2 hH3
 generalize ((w3.setCell ⟨X1,3,none⟩ (.slice A2 u.ls.length c2)).setCell ⟨X1,4,none⟩ (.slice A3 u.ms.length c3))=W4 at hx5 hv2 hv3 hy5 hf5 hs5 HFX ⊢
 have HFX5:=HFX
 -- the list
 obtain ⟨gL,hgL1,hgL3,hgL2,hgL⟩:∃ gL,(W1.heap.size≤gL∧gL≤W4.heap.size)∧(¬ 0<u.ls.length→gL=W4.heap.size)∧(0<u.ls.length→gL<w2.heap.size)∧Hid (0<u.ls.length→A2=some ⟨gL,0,none⟩ ∧ ∃ O:Nat→Prop,(∀ b,O b→b<w2.heap.size∧b≠gL∧b≠X1)∧CpI W4 gL u.ls (fun _=>False) O 0):=by
  by_cases h0:0<u.ls.length
  ·obtain ⟨g,O,hA,hK,hO,hc⟩:=HV2.out.cp h0 (fun _=>False)
   obtain ⟨cur,hcur,_⟩:=hc.blk
   have hgl:=hcur.lt
   have hO2:∀ b,O b→b<w2.heap.size∧b≠g∧b≠X1:=fun b hb=>by
    obtain ⟨h1,h2,h3⟩:=hO b hb
    exact ⟨h1,h2,by rcases h3 with h3 | h3 <;> omega⟩
   refine ⟨g,⟨by omega,by omega⟩,fun h=>absurd h0 h,fun _=>hgl,Lib.hid (fun _=>⟨hA,O,hO2,?_⟩)⟩
   exact (hc.keep HF3.out (fun _ h=>h.elim) (fun b hb=>(hO2 b hb).1)).frx HFX5.out (by omega) (fun _ h=>h.elim) (fun b hb=>by have:=(hO2 b hb).1;omega) (fun _ h=>h.elim) (fun b hb=>(hO2 b hb).2.2)
  ·exact ⟨W4.heap.size,⟨by omega,Nat.le_refl _⟩,fun _=>rfl,fun h=>absurd h h0,Lib.hid (fun h=>absurd h h0)⟩
 have HX5:=Lib.hid hx5
 have HM5:=Lib.hid hv3
 have HY5:=Lib.hid hy5
 have HF5:=Lib.hid hf5
 obtain ⟨⟨y0,y1,y2,y3,y4⟩,_⟩:=box5 hx5
 clear hx5 hv2 hv3 hy5 hf5 HV2 HV3 HSW HCV HCM HX1 HX2 HFX HFX5
 go_upto_region 3 with fail
 clear y0 y1 y2 y3 y4
 go_loopw [16] (fun j wr=>∃ (i:Nat),i≤u.ls.length∧j=.int .i64 i∧Hid (FrX gL W4 wr)∧Hid (0<u.ls.length → ∃ O:Nat→Prop,(∀ b,O b→b<w2.heap.size∧b≠gL∧b≠X1)∧CpI wr gL u.ls (Be W4.heap.size wr.heap.size) O i)) (fun j _=>u.ls.length - (intOf j).toNat)
 case atStart=>
  refine ⟨0,by omega,rfl,Lib.hid (FrX.refl gL W4),Lib.hid (fun h=>?_)⟩
  obtain ⟨_,O,h1,h2⟩:=hgL.out h
  exact ⟨O,h1,h2.more (fun _ h=>h.elim)⟩
 case round=>
  obtain ⟨i,hi,rfl,hX,hC⟩:=hrel
  have hx6:=HX5.out.frx hX.out (show X1≠gL by omega)
  have hsz:=hX.out.size
  by_cases hlt:i<u.ls.length
  ·have hlt':(i:Int)<(u.ls.length:Int):=by omega
   have hn0:0<u.ls.length:=by omega
   obtain ⟨O,hO,hcp⟩:=hC.out hn0
   obtain ⟨rfl,_⟩:=hgL.out hn0
   have hgW:=hgL2 hn0
   obtain ⟨C,f,C',f',hvc,hin⟩:=hcp.at_ i hlt
   rw [if_neg (Nat.lt_irrefl i)] at hin
   obtain ⟨g,hg⟩:∃ g,gL=g:=⟨_,rfl⟩
   have hOb:∀ b,O b→b<wr.heap.size:=fun b hb=>by have:=(hO b hb).1;omega
   have hxm:=List.getElem_mem hlt
   have hcpx:=HIL.out _ hxm
   have hnvx:=HNL.out _ hxm
   have hC9:∀ W,Fr wr W→CpI W gL u.ls (Be W4.heap.size W.heap.size) O i:=fun W hW=>(hcp.keep hW be_lt hOb).more (fun b hb=>⟨hb.1,Nat.lt_of_lt_of_le hb.2 hW.size⟩)
   obtain ⟨x,hxe⟩:∃ x,u.ls[i]=x:=⟨_,rfl⟩
   rw [hxe] at hvc hin hcpx hnvx
   rw [hg] at hvc hx6 hC9 hgW ⊢
   obtain ⟨cur,hcur,_⟩:=hcp.blk
   rw [hg] at hcur
   have HS5:Hid (∀ W,Fr wr W→W.cell? ⟨X1,3,none⟩=some (.slice (some ⟨g,0,none⟩) u.ls.length c2)∧(W.cell? ⟨g,i*5,none⟩=some (.int .i64 x.kd)∧W.cell? ⟨g,i*5+1,none⟩=some (.int .i64 x.nm)∧W.cell? ⟨g,i*5+2,none⟩=some (.string ⟨x.tx.toArray⟩)∧W.cell? ⟨g,i*5+3,none⟩=some (.slice C x.ls.length f)∧W.cell? ⟨g,i*5+4,none⟩=some (.slice C' x.ms.length f'))):=Lib.hid (fun W hW=>by
    have a:=hx6.keep hW
    have hk:∀ o,W.cell? ⟨g,o,none⟩=wr.cell? ⟨g,o,none⟩:=fun o=>hW.cell hcur.lt
    exact ⟨a.cell 3,(hk _).trans hvc.1,(hk _).trans hvc.2.1,(hk _).trans hvc.2.2.1,(hk _).trans hvc.2.2.2.1,(hk _).trans hvc.2.2.2.2⟩)
   have HCP:Hid (∀ W,Fr wr W→Calls Tryz.prog 16 #[.agg #[.int .i64 x.kd,.int .i64 x.nm,.string ⟨x.tx.toArray⟩,.slice C x.ls.length f,.slice C' x.ms.length f']] W fun e w'=>(∃ (D:Option Addr) (d:Nat) (D':Option Addr) (d':Nat),e=.returned (.agg #[.int .i64 x.kd,.int .i64 x.nm,.string ⟨x.tx.toArray⟩,.slice D x.ls.length d,.slice D' x.ms.length d'])∧InV w' (Be W.heap.size w'.heap.size) x (vA x D d D' d'))∧Fr W w'):=Lib.hid (fun W hW=>hcpx (vA x C f C' f') W (hin.map (fun b hb=>Nat.lt_of_lt_of_le (hOb b hb) hW.size) (fun b o hb=>hW.cell (hOb b hb))) hnvx)
   have HC9:=Lib.hid hC9
   have HO:=Lib.hid hO
   have HXE:=Lib.hid hxe
   clear hvc hin hcpx hnvx hcp hcur hx6 hxm
   go_upto_region 5 with fail
   refine OrdL.begin (x:=10) (fun W=>W.cell? ⟨X1,3,none⟩=some (.slice (some ⟨g,0,none⟩) u.ls.length c2)∧(W.cell? ⟨g,i*5,none⟩=some (.int .i64 x.kd)∧W.cell? ⟨g,i*5+1,none⟩=some (.int .i64 x.nm)∧W.cell? ⟨g,i*5+2,none⟩=some (.string ⟨x.tx.toArray⟩)∧W.cell? ⟨g,i*5+3,none⟩=some (.slice C x.ls.length f)∧W.cell? ⟨g,i*5+4,none⟩=some (.slice C' x.ms.length f'))) (by kernel_rfl) ?_ (fun hH=>?_)
   ·exact HS5.out _ (Fr.refl _).drew
   refine lq 0 [1,9] rfl hH ?_
   try simp only [Act.put,fl]
   refine lq 1 [9] rfl hH ?_
   try simp only [Act.put,fl]
   refine lq 2 [9] rfl hH ?_
   try simp only [Act.put,fl]
   refine lq 3 [4,6,7,8] rfl hH ?_
   try simp only [Act.put,fl]
   refine lq 4 [6,7,8] rfl hH ?_
   try simp only [Act.put,fl]
   refine lq 5 [6,7,8] rfl hH ?_
   try simp only [Act.put,fl]
   refine lq 6 [7,8] rfl hH ?_
   try simp only [Act.put,fl]
   refine lq 7 [8] rfl hH ?_
   try simp only [Act.put,fl]
   refine OrdL.one (i:=8) rfl (by kernel_rfl) (by rfl) (fun K hK=>?_)
   (go_simp;go_at_call 16;refine (HCP.out _ (Fr.refl wr).drew).mono ?_;rintro e w9 ⟨⟨D,d,D',d',rfl,hv9⟩,hf9⟩;have HV9:=Lib.hid hv9;have HF9:Hid (Fr wr w9):=Lib.hid ((Fr.refl wr).drew.trans hf9);clear hv9 hf9)
   refine hK.out _ _ (HS5.out _ HF9.out) (fun hH3=>?_)
   clear hK K
   try simp only [Act.put,fl]
   refine lq 9 [] rfl hH3 ?_
   try simp only [Act.put,fl]
   obtain ⟨cur9,hk9,hz9⟩:=(hC9 _ HF9.out).blk
   have q0:∃ v,w9.cell? ⟨g,i*5,none⟩=some v:=⟨_,(hk9.cell _).trans (Array.getElem?_eq_getElem (by omega))⟩
   have q1:∃ v,w9.cell? ⟨g,i*5+1,none⟩=some v:=⟨_,(hk9.cell _).trans (Array.getElem?_eq_getElem (by omega))⟩
   have q2:∃ v,w9.cell? ⟨g,i*5+2,none⟩=some v:=⟨_,(hk9.cell _).trans (Array.getElem?_eq_getElem (by omega))⟩
   have q3:∃ v,w9.cell? ⟨g,i*5+3,none⟩=some v:=⟨_,(hk9.cell _).trans (Array.getElem?_eq_getElem (by omega))⟩
   have q4:∃ v,w9.cell? ⟨g,i*5+4,none⟩=some v:=⟨_,(hk9.cell _).trans (Array.getElem?_eq_getElem (by omega))⟩
   obtain ⟨m0,hm0⟩:=q0
   obtain ⟨m1,hm1⟩:=q1
   obtain ⟨m2,hm2⟩:=q2
   obtain ⟨m3,hm3⟩:=q3
   obtain ⟨m4,hm4⟩:=q4
   have hf0:=hk9.free (i*5)
   have hf1:=hk9.free (i*5+1)
   have hf2:=hk9.free (i*5+2)
   have hf3:=hk9.free (i*5+3)
   have hf4:=hk9.free (i*5+4)
   refine OrdL.last rfl (by kernel_rfl) (by kernel_rfl) (fun K hK=>?_)
   go_simp
   refine hK.out _ _ ?_
   clear hK K
   try simp only [Act.put,fl]
   have hd9:wr.drew.heap.size=wr.heap.size:=rfl
   have hb9:=HF9.out.size
   have hst:=(HC9.out _ HF9.out).step hlt (S:=Be W4.heap.size w9.heap.size) (fun b hb e=>by have:=hb.1;omega) (fun b hb=>by rw [← hg];exact (HO.out b hb).2.1) (C:=D) (f:=d) (C':=D') (f':=d') (by
    rw [HXE.out]
    exact HV9.out.more (fun b hb=>⟨by have:=hb.1;omega,hb.2⟩))
   rw [HXE.out] at hst
   have hfr:=st5g_frx w9 g (i*5) (.int .i64 x.kd) (.int .i64 x.nm) (.string ⟨x.tx.toArray⟩) (.slice D x.ls.length d) (.slice D' x.ms.length d')
   have hsz9:=st5g_size w9 g (i*5) (.int .i64 x.kd) (.int .i64 x.nm) (.string ⟨x.tx.toArray⟩) (.slice D x.ls.length d) (.slice D' x.ms.length d')
   rw [hg] at hX hO
   go_wp2_with fail
   subst hg
   exact ⟨⟨i+1,by omega,by go_num,Lib.hid (FrX.trans (hX.out.fr HF9.out) hfr),Lib.hid (fun _=>⟨O,HO.out,hst.more (fun b hb=>⟨hb.1,Nat.lt_of_lt_of_eq hb.2 hsz9.symm⟩)⟩)⟩,by simp [intOf];omega⟩
  ·obtain rfl:i=u.ls.length:=by omega
   obtain ⟨WB,hWBe⟩:∃ W,W=wr:=⟨_,rfl⟩
   subst hWBe
   have hw1:=HF0.out.size
   have hm6:MsB WB w.heap.size w2.heap.size (.slice A3 u.ms.length c3) u.ms:=by
    by_cases h0:0<u.ls.length
    ·exact HM5.out.frx (by omega) (hgL2 h0) hX.out
    ·exact HM5.out.keep (by
      have hb:=hX.out.below (by omega)
      rw [hgL3 h0] at hb
      exact hb)
   obtain ⟨S1,hS1,hls6⟩:∃ S1:Nat→Prop,(∀ b,S1 b→W1.heap.size≤b∧b<WB.heap.size∧(b<w2.heap.size∨W4.heap.size≤b))∧Hid (LsC WB S1 A2 u.ls):=by
    by_cases h0:0<u.ls.length
    ·obtain ⟨O,_,hcp⟩:=hC.out h0
     obtain ⟨hA2,_⟩:=hgL.out h0
     have hg2:=hgL2 h0
     refine ⟨fun b=>b=gL∨Be W4.heap.size WB.heap.size b,fun b hb=>?_,Lib.hid (by rw [hA2];exact hcp.lsC (.inl rfl) (fun b hb=>.inr hb))⟩
     rcases hb with rfl | hb
     ·omega
     ·have:=hb.1
      have:=hb.2
      omega
    ·exact ⟨fun _=>False,fun _ h=>h.elim,Lib.hid (fun i hi=>absurd hi (by omega))⟩
   obtain ⟨gM,hgM1,hgM2,hgM⟩:∃ gM,(w2.heap.size≤gM∧gM≤WB.heap.size)∧(gM<W4.heap.size∨gM=WB.heap.size)∧Hid (0<u.ms.length→A3=some ⟨gM,0,none⟩∧gM<W4.heap.size∧CqI WB gM u.ms (fun _=>False) (Lo w.heap.size) 0):=by
    by_cases h0:0<u.ms.length
    ·obtain ⟨g,hA,hK,hc⟩:=hm6.cq h0 (fun _=>False)
     obtain ⟨g',hA',_,hc'⟩:=HM5.out.cq h0 (fun _=>False)
     obtain ⟨cur,hcur,_⟩:=hc'.blk
     have hgl:=hcur.lt
     have he:g=g':=by
      have:=hA.symm.trans hA'
      injection this with this
      injection this
     rw [← he] at hgl
     exact ⟨g,⟨hK,by omega⟩,.inl hgl,Lib.hid (fun _=>⟨hA,hgl,hc⟩)⟩
    ·exact ⟨WB.heap.size,⟨by omega,Nat.le_refl _⟩,.inr rfl,Lib.hid (fun h=>absurd h h0)⟩
   have hy7:=HY5.out.frx hX.out (show X2≠gL by omega)
   have hf7:Fr w WB:=Fr.thenY HF5.out (show w.heap.size≤gL by omega) (by omega) hX.out
   have HX7:=Lib.hid hx6
   have HY7:=Lib.hid hy7
   have HF7:=Lib.hid hf7
   have hw7:=hf7.size
   obtain ⟨⟨y0,y1,y2,y3,y4⟩,_⟩:=box5 hx6
   clear hx6 hy7 hf7 hm6 hC hX hgL HM5 HX5 HY5 HF5 hlt hi
   go_upto_region 8 with fail
   clear y0 y1 y2 y3 y4
   go_loopw [33] (fun j wr=>∃ (i:Nat),i≤u.ms.length∧j=.int .i64 i∧Hid (FrX gM WB wr)∧Hid (0<u.ms.length→CqI wr gM u.ms (Be WB.heap.size wr.heap.size) (Lo w.heap.size) i)) (fun j _=>u.ms.length - (intOf j).toNat)
   case atStart=>exact ⟨0,by omega,rfl,Lib.hid (FrX.refl gM WB),Lib.hid (fun h=>(hgM.out h).2.2.more (fun _ h=>h.elim))⟩
   case round=>
    obtain ⟨i,hi,rfl,hX,hC⟩:=hrel
    have hx8:=HX7.out.frx hX.out (show X1≠gM by omega)
    have hsz3:=hX.out.size
    by_cases hlt:i<u.ms.length
    ·have hlt':(i:Int)<(u.ms.length:Int):=by omega
     have hn0:0<u.ms.length:=by omega
     have hcq:=hC.out hn0
     obtain ⟨rfl,hgW,_⟩:=hgM.out hn0
     obtain ⟨C,f,C',f',hnl,hn00,hvc,hin⟩:=hcq.at_ i hlt
     rw [if_neg (Nat.lt_irrefl i)] at hin
     obtain ⟨g,hg⟩:∃ g,gM=g:=⟨_,rfl⟩
     have hOb:∀ b,Lo w.heap.size b→b<wr.heap.size:=fun b hb=>by
      have h:b<w.heap.size:=hb
      omega
     have hxm:=List.getElem_mem hlt
     have hcpx:=HIM.out _ hxm
     have hnvx:=HNM.out _ hxm
     have hC9:∀ W,Fr wr W→CqI W gM u.ms (Be WB.heap.size W.heap.size) (Lo w.heap.size) i:=fun W hW=>(hcq.keep hW be_lt hOb).more (fun b hb=>⟨hb.1,Nat.lt_of_lt_of_le hb.2 hW.size⟩)
     obtain ⟨x,hxe⟩:∃ x,u.ms[i].2=x:=⟨_,rfl⟩
     rw [hxe] at hvc hin hcpx hnvx
     rw [hg] at hvc hx8 hC9 hgW ⊢
     obtain ⟨cur,hcur,_⟩:=hcq.blk
     rw [hg] at hcur
     have HS5:Hid (∀ W,Fr wr W→W.cell? ⟨X1,4,none⟩=some (.slice (some ⟨g,0,none⟩) u.ms.length c3)∧(W.cell? ⟨g,i*6+1,none⟩=some (.int .i64 x.kd)∧W.cell? ⟨g,i*6+1+1,none⟩=some (.int .i64 x.nm)∧W.cell? ⟨g,i*6+1+2,none⟩=some (.string ⟨x.tx.toArray⟩)∧W.cell? ⟨g,i*6+1+3,none⟩=some (.slice C x.ls.length f)∧W.cell? ⟨g,i*6+1+4,none⟩=some (.slice C' x.ms.length f'))):=Lib.hid (fun W hW=>by
      have a:=hx8.keep hW
      have hk:∀ o,W.cell? ⟨g,o,none⟩=wr.cell? ⟨g,o,none⟩:=fun o=>hW.cell hcur.lt
      exact ⟨a.cell 4,(hk _).trans hvc.1,(hk _).trans hvc.2.1,(hk _).trans hvc.2.2.1,(hk _).trans hvc.2.2.2.1,(hk _).trans hvc.2.2.2.2⟩)
     have HCP:Hid (∀ W,Fr wr W→Calls Tryz.prog 16 #[.agg #[.int .i64 x.kd,.int .i64 x.nm,.string ⟨x.tx.toArray⟩,.slice C x.ls.length f,.slice C' x.ms.length f']] W fun e w'=>(∃ (D:Option Addr) (d:Nat) (D':Option Addr) (d':Nat),e=.returned (.agg #[.int .i64 x.kd,.int .i64 x.nm,.string ⟨x.tx.toArray⟩,.slice D x.ls.length d,.slice D' x.ms.length d'])∧InV w' (Be W.heap.size w'.heap.size) x (vA x D d D' d'))∧Fr W w'):=Lib.hid (fun W hW=>hcpx (vA x C f C' f') W (hin.map (fun b hb=>Nat.lt_of_lt_of_le (hOb b hb) hW.size) (fun b o hb=>hW.cell (hOb b hb))) hnvx)
     have HC9:=Lib.hid hC9
     have HXE:=Lib.hid hxe
     clear hvc hin hcpx hnvx hcq hcur hx8 hxm hn00 hnl
     go_upto_region 10 with fail
     refine OrdL.begin (x:=12) (fun W=>W.cell? ⟨X1,4,none⟩=some (.slice (some ⟨g,0,none⟩) u.ms.length c3)∧(W.cell? ⟨g,i*6+1,none⟩=some (.int .i64 x.kd)∧W.cell? ⟨g,i*6+1+1,none⟩=some (.int .i64 x.nm)∧W.cell? ⟨g,i*6+1+2,none⟩=some (.string ⟨x.tx.toArray⟩)∧W.cell? ⟨g,i*6+1+3,none⟩=some (.slice C x.ls.length f)∧W.cell? ⟨g,i*6+1+4,none⟩=some (.slice C' x.ms.length f'))) (by kernel_rfl) ?_ (fun hH=>?_)
     ·exact HS5.out _ (Fr.refl _).drew
     refine lq 0 [1,10,11] rfl hH ?_
     try simp only [Act.put,fl]
     refine lq 1 [10,11] rfl hH ?_
     try simp only [Act.put,fl]
     refine lq 2 [10,11] rfl hH ?_
     try simp only [Act.put,fl]
     refine lq 3 [4,6,7,8,9] rfl hH ?_
     try simp only [Act.put,fl]
     refine lq 4 [6,7,8,9] rfl hH ?_
     try simp only [Act.put,fl]
     refine lq 5 [6,7,8,9] rfl hH ?_
     try simp only [Act.put,fl]
     refine lq 6 [7,8,9] rfl hH ?_
     try simp only [Act.put,fl]
     refine lq 7 [8,9] rfl hH ?_
     try simp only [Act.put,fl]
     refine lq 8 [9] rfl hH ?_
     try simp only [Act.put,fl]
     refine OrdL.one (i:=9) rfl (by kernel_rfl) (by rfl) (fun K hK=>?_)
     (go_simp;go_at_call 16;refine (HCP.out _ (Fr.refl wr).drew).mono ?_;rintro e w9 ⟨⟨D,d,D',d',rfl,hv9⟩,hf9⟩;have HV9:=Lib.hid hv9;have HF9:Hid (Fr wr w9):=Lib.hid ((Fr.refl wr).drew.trans hf9);clear hv9 hf9)
     refine hK.out _ _ (HS5.out _ HF9.out) (fun hH3=>?_)
     clear hK K
     try simp only [Act.put,fl]
     refine lq 10 [11] rfl hH3 ?_
     try simp only [Act.put,fl]
     refine lq 11 [] rfl hH3 ?_
     try simp only [Act.put,fl]
     obtain ⟨cur9,hk9,hz9⟩:=(hC9 _ HF9.out).blk
     have q0:∃ v,w9.cell? ⟨g,i*6+1,none⟩=some v:=⟨_,(hk9.cell _).trans (Array.getElem?_eq_getElem (by omega))⟩
     have q1:∃ v,w9.cell? ⟨g,i*6+1+1,none⟩=some v:=⟨_,(hk9.cell _).trans (Array.getElem?_eq_getElem (by omega))⟩
     have q2:∃ v,w9.cell? ⟨g,i*6+1+2,none⟩=some v:=⟨_,(hk9.cell _).trans (Array.getElem?_eq_getElem (by omega))⟩
     have q3:∃ v,w9.cell? ⟨g,i*6+1+3,none⟩=some v:=⟨_,(hk9.cell _).trans (Array.getElem?_eq_getElem (by omega))⟩
     have q4:∃ v,w9.cell? ⟨g,i*6+1+4,none⟩=some v:=⟨_,(hk9.cell _).trans (Array.getElem?_eq_getElem (by omega))⟩
     obtain ⟨m0,hm0⟩:=q0
     obtain ⟨m1,hm1⟩:=q1
     obtain ⟨m2,hm2⟩:=q2
     obtain ⟨m3,hm3⟩:=q3
     obtain ⟨m4,hm4⟩:=q4
     have hf0:=hk9.free (i*6+1)
     have hf1:=hk9.free (i*6+1+1)
     have hf2:=hk9.free (i*6+1+2)
     have hf3:=hk9.free (i*6+1+3)
     have hf4:=hk9.free (i*6+1+4)
     refine OrdL.last rfl (by kernel_rfl) (by kernel_rfl) (fun K hK=>?_)
     go_simp
     refine hK.out _ _ ?_
     clear hK K
     try simp only [Act.put,fl]
     have hd9:wr.drew.heap.size=wr.heap.size:=rfl
     have hb9:=HF9.out.size
     have hst:=(HC9.out _ HF9.out).step hlt (S:=Be WB.heap.size w9.heap.size) (fun b hb e=>by have:=hb.1;omega) (fun b hb=>by
      have h:b<w.heap.size:=hb
      omega) (C:=D) (f:=d) (C':=D') (f':=d') (by
      rw [HXE.out]
      exact HV9.out.more (fun b hb=>⟨by have:=hb.1;omega,hb.2⟩))
     rw [HXE.out] at hst
     have hfr:=st5g_frx w9 g (i*6+1) (.int .i64 x.kd) (.int .i64 x.nm) (.string ⟨x.tx.toArray⟩) (.slice D x.ls.length d) (.slice D' x.ms.length d')
     have hsz9:=st5g_size w9 g (i*6+1) (.int .i64 x.kd) (.int .i64 x.nm) (.string ⟨x.tx.toArray⟩) (.slice D x.ls.length d) (.slice D' x.ms.length d')
     rw [hg] at hX
     go_wp2_with fail
     subst hg
     exact ⟨⟨i+1,by omega,by go_num,Lib.hid (FrX.trans (hX.out.fr HF9.out) hfr),Lib.hid (fun _=>hst.more (fun b hb=>⟨hb.1,Nat.lt_of_lt_of_eq hb.2 hsz9.symm⟩))⟩,by simp [intOf];omega⟩
    ·obtain rfl:i=u.ms.length:=by omega
     have hy8:=HY7.out.frx hX.out (show X2≠gM by omega)
     have hls8:LsC wr (Be W1.heap.size wr.heap.size) A2 u.ls:=hls6.out.map (fun b hb=>⟨(hS1 b hb).1,by have:=(hS1 b hb).2.1;omega⟩) (fun b o hb=>hX.out.cell (hS1 b hb).2.1 (fun e=>by have:=(hS1 b hb).2;omega))
     have hms8:MsC wr (Be W1.heap.size wr.heap.size) A3 u.ms:=by
      by_cases h0:0<u.ms.length
      ·obtain ⟨hA3,hgW,_⟩:=hgM.out h0
       rw [hA3]
       exact (hC.out h0).msC ⟨by omega,by omega⟩ (fun b hb=>⟨by have:=hb.1;omega,hb.2⟩)
      ·exact fun i hi=>absurd hi (by omega)
     have hcq8:0<u.ms.length → ∃ g,A3=some ⟨g,0,none⟩∧w.heap.size≤g∧g≠X2∧CqI wr g u.ms (fun b=>(Be w.heap.size wr.heap.size b∧b≠g)∧b≠X2) (Lo w.heap.size) u.ms.length:=fun h0=>by
      obtain ⟨hA3,hgW,_⟩:=hgM.out h0
      exact ⟨gM,hA3,by omega,by omega,(hC.out h0).more (fun b hb=>⟨⟨⟨by have:=hb.1;omega,hb.2⟩,by have:=hb.1;omega⟩,by have:=hb.1;omega⟩)⟩
     have HCQ8:=Lib.hid hcq8
     clear hcq8
     obtain ⟨⟨n1,n2⟩,⟨k1,k2⟩,t1⟩:=HFA.out
     have hin8:=InV.both (c:=c2) (c':=c3) hls8 hms8 (by omega) (by omega) u.kd u.nm u.tx n1 n2 k1 k2 t1
     rw [show JV.mk u.kd u.nm u.tx u.ls u.ms=u from by cases u;rfl] at hin8
     have hf8:Fr w wr:=Fr.thenY HF7.out (show w.heap.size≤gM by omega) hgM1.2 hX.out
     obtain ⟨⟨y0,y1,y2,y3,y4⟩,_⟩:=box5 hx8
     obtain ⟨⟨z0,z1,z2,z3,z4⟩,zf0,zf1,zf2,zf3,zf4⟩:=box5 hy8
     have HY8:=Lib.hid hy8
     have HIN8:=Lib.hid hin8
     have HF8:=Lib.hid hf8
     clear hy8 hin8 hf8 hls8 hms8 hx8 n1 n2 k1 k2 t1 hlt hi
     go_wp2_with fail
     refine bodyPost_ret (results_cv (by rfl) rfl _ X2 (by rfl) _ _ _ _ _ (set5 HY8.out)) rfl ?_
     refine ⟨⟨A2,c2,A3,c3,rfl,?_,fun h0=>?_⟩,HF8.out.put5 (X:=X2) (by omega) _ _ _ _ _⟩
     rotate_left
     ·obtain ⟨g,hA3,hg1,hg2,hq⟩:=HCQ8.out h0
      have hfx:=(((((FrX.refl X2 wr).setCell (p:=⟨X2,0,none⟩) rfl (.int .i64 u.kd)).setCell (p:=⟨X2,1,none⟩) rfl (.int .i64 u.nm)).setCell (p:=⟨X2,2,none⟩) rfl (.string ⟨u.tx.toArray⟩)).setCell (p:=⟨X2,3,none⟩) rfl (.slice A2 u.ls.length c2)).setCell (p:=⟨X2,4,none⟩) rfl (.slice A3 u.ms.length c3)
      have hq2:=hq.frx hfx hg2 (fun b hb=>hb.1.1.2) (fun b hb=>by have h:b<w.heap.size:=hb;have:=HF8.out.size;omega) (fun b hb=>hb.2) (fun b hb e=>by have h:b<w.heap.size:=hb;omega)
      exact ⟨g,hA3,hg1,hq2.more (fun b hb=>⟨⟨hb.1.1.1,by simpa [World.setCell] using hb.1.1.2⟩,hb.1.2⟩)⟩
     refine HIN8.out.map (fun b hb=>⟨by have:=hb.1;omega,by simpa [World.setCell] using hb.2⟩) (fun b o hb=>?_)
     have hne:b≠X2:=by have:=hb.1;omega
     unfold World.cell?
     rw [Below.heap_setCell _ _ _ _ hne,Below.heap_setCell _ _ _ _ hne,Below.heap_setCell _ _ _ _ hne,Below.heap_setCell _ _ _ _ hne,Below.heap_setCell _ _ _ _ hne]
theorem copy_is (u:JV):CpAt u:=by
 refine JV.ind (P:=CpAt) (fun k n s l m h1 h2=>(copy_step (.mk k n s l m) h1 h2).weak) u
theorem copyq_is (u:JV):CpQ u:=copy_step u (fun x _=>copy_is x) (fun p _=>copy_is p.2)
/- One member stored anew in a block that a call owns. -/

def st6q (w:World) (g o:Nat) (s u0 u1 u2 u3 u4:Value):World:=((((((w.setCell ⟨g,o,none⟩ s).setCell ⟨g,o+1,none⟩ u0).setCell ⟨g,o+2,none⟩ u1).setCell ⟨g,o+3,none⟩ u2).setCell ⟨g,o+4,none⟩ u3).setCell ⟨g,o+5,none⟩ u4)
theorem st6q_eq (w:World) (g o:Nat) (s u0 u1 u2 u3 u4:Value):st6q w g o s u0 u1 u2 u3 u4=st5g (w.setCell ⟨g,o,none⟩ s) g (o+1) u0 u1 u2 u3 u4:=rfl
theorem st6q_frx (w:World) (g o:Nat) (s u0 u1 u2 u3 u4:Value):FrX g w (st6q w g o s u0 u1 u2 u3 u4):=((((((FrX.refl g w).setCell rfl _).setCell rfl _).setCell rfl _).setCell rfl _).setCell rfl _).setCell rfl _
theorem st6q_blk {w:World} {g o:Nat} {cur:Array Value} {T:TypeId} (h:Blk w g cur T) (s u0 u1 u2 u3 u4:Value):∃ cur',Blk (st6q w g o s u0 u1 u2 u3 u4) g cur' T∧cur'.size=cur.size:=
 ⟨_,(((((h.set o s).set (o+1) u0).set (o+2) u1).set (o+3) u2).set (o+4) u3).set (o+5) u4,by simp⟩
theorem st6q_size (w:World) (g o:Nat) (s u0 u1 u2 u3 u4:Value):(st6q w g o s u0 u1 u2 u3 u4).heap.size=w.heap.size:=by simp [st6q,World.setCell]
theorem CqI.put {W:World} {g:Nat} {m:List (List UInt8 × JV)} {S O:Nat→Prop} {n:Nat} (h:CqI W g m S O n) (hn:m.length≤n) {i:Nat} (hi:i<m.length) (hS:∀ b,S b→b≠g) {s:List UInt8} {x:JV} (hs:s.length≤140737488355328) {C:Option Addr} {f:Nat} {C':Option Addr} {f':Nat} (hx:InV W S x (vA x C f C' f')):
  CqI (st6q W g (i*6) (.string ⟨s.toArray⟩) (.int .i64 x.kd) (.int .i64 x.nm) (.string ⟨x.tx.toArray⟩) (.slice C x.ls.length f) (.slice C' x.ms.length f')) g (m.set i (s,x)) S O n:=by
 obtain ⟨cur,hb,hz⟩:=h.blk
 have hb0:=hb.set (i*6) (.string ⟨s.toArray⟩)
 have hat:=put5g_at (W.setCell ⟨g,i*6,none⟩ (.string ⟨s.toArray⟩)) g (i*6+1) (.int .i64 x.kd) (.int .i64 x.nm) (.string ⟨x.tx.toArray⟩) (.slice C x.ls.length f) (.slice C' x.ms.length f') (fun j hj=>⟨_,(hb0.cell (i*6+1+j)).trans (Array.getElem?_eq_getElem (by simp;omega))⟩)
 have hot:=put5g_other (W.setCell ⟨g,i*6,none⟩ (.string ⟨s.toArray⟩)) g (i*6+1) (.int .i64 x.kd) (.int .i64 x.nm) (.string ⟨x.tx.toArray⟩) (.slice C x.ls.length f) (.slice C' x.ms.length f')
 obtain ⟨cur',hb',hz'⟩:=st6q_blk (o:=i*6) hb (.string ⟨s.toArray⟩) (.int .i64 x.kd) (.int .i64 x.nm) (.string ⟨x.tx.toArray⟩) (.slice C x.ls.length f) (.slice C' x.ms.length f')
 have hne0:∀ b o,b≠g→(W.setCell ⟨g,i*6,none⟩ (.string ⟨s.toArray⟩)).cell? ⟨b,o,none⟩=W.cell? ⟨b,o,none⟩:=fun b o hb=>World.cell?_setCell_other _ _ _ _ (fun e=>by injection e with e _ _;exact hb e.symm)
 have hnm0:∀ k,(W.setCell ⟨g,i*6,none⟩ (.string ⟨s.toArray⟩)).cell? ⟨g,k*6,none⟩=if i=k then some (.string ⟨s.toArray⟩) else W.cell? ⟨g,k*6,none⟩:=fun k=>by
  rw [hb0.cell,hb.cell,Array.getElem?_setIfInBounds]
  by_cases e:i=k
  ·subst e;rw [if_pos rfl,if_pos rfl,if_pos (by omega)]
  ·rw [if_neg (by omega),if_neg e]
 have hc0:∀ k j,j<5→(W.setCell ⟨g,i*6,none⟩ (.string ⟨s.toArray⟩)).cell? ⟨g,k*6+1+j,none⟩=W.cell? ⟨g,k*6+1+j,none⟩:=fun k j hj=>by
  rw [hb0.cell,hb.cell,Array.getElem?_setIfInBounds,if_neg (by omega)]
 rw [st6q_eq] at hb' ⊢
 unfold st5g at hb' ⊢
 generalize (W.setCell ⟨g,i*6,none⟩ (.string ⟨s.toArray⟩))=W1 at hat hot hb' hne0 hnm0 hc0 ⊢
 generalize (((((W1.setCell ⟨g,i*6+1,none⟩ (.int .i64 x.kd)).setCell ⟨g,i*6+1+1,none⟩ (.int .i64 x.nm)).setCell ⟨g,i*6+1+2,none⟩ (.string ⟨x.tx.toArray⟩)).setCell ⟨g,i*6+1+3,none⟩ (.slice C x.ls.length f)).setCell ⟨g,i*6+1+4,none⟩ (.slice C' x.ms.length f'))=W9 at hat hot hb' ⊢
 have hne:∀ b o,b≠g→W9.cell? ⟨b,o,none⟩=W.cell? ⟨b,o,none⟩:=fun b o hb=>(hot _ (fun j _ e=>by injection e with e _ _;exact hb e.symm)).trans (hne0 b o hb)
 have hnm:∀ k,W9.cell? ⟨g,k*6,none⟩=if i=k then some (.string ⟨s.toArray⟩) else W.cell? ⟨g,k*6,none⟩:=fun k=>(hot _ (fun j' hj' e=>by injection e;omega)).trans (hnm0 k)
 refine ⟨⟨cur',hb',by rw [List.length_set];omega⟩,fun k hk=>?_⟩
 have hk':k<m.length:=by simpa using hk
 rw [List.getElem_set]
 by_cases e:i=k
 ·subst e
  rw [if_pos rfl,if_pos (show i<n by omega)]
  exact ⟨C,f,C',f',hs,(hnm i).trans (if_pos rfl),⟨hat.1,hat.2.1,hat.2.2.1,hat.2.2.2.1,hat.2.2.2.2⟩,hx.map (fun _ h=>h) (fun b o hb=>hne b o (hS b hb))⟩
 ·rw [if_neg e]
  obtain ⟨D,d,D',d',h0,h00,h1,h2⟩:=h.at_ k hk'
  rw [if_pos (show k<n by omega)] at h2 ⊢
  have hcell:∀ j,j<5→W9.cell? ⟨g,k*6+1+j,none⟩=W.cell? ⟨g,k*6+1+j,none⟩:=fun j hj=>(hot _ (fun j' hj' e=>by injection e;omega)).trans (hc0 k j hj)
  exact ⟨D,d,D',d',h0,((hnm k).trans (if_neg e)).trans h00,⟨(hcell 0 (by omega)).trans h1.1,(hcell 1 (by omega)).trans h1.2.1,(hcell 2 (by omega)).trans h1.2.2.1,(hcell 3 (by omega)).trans h1.2.2.2.1,(hcell 4 (by omega)).trans h1.2.2.2.2⟩,h2.map (fun _ h=>h) (fun b o hb=>hne b o (hS b hb))⟩
/- Slices of members that a call made itself; what they hold lies in S, anywhere but in their own block. -/

def MgT (w:World) (S:Nat→Prop) (K:Nat) (v:Value) (m:List (List UInt8 × JV)):Prop:=((∀ b,S b→b<w.heap.size∧v.ownBlock≠some b)∧K≤w.heap.size) ∧ ∃ xs:List (List UInt8 × Value),Mbs w K v xs∧xs.length=m.length ∧ ∀ i (h1:i<xs.length) (h2:i<m.length),xs[i].1=m[i].1∧m[i].1.length≤140737488355328∧InV w (S) m[i].2 xs[i].2
def st5 (w:World) (X:Nat) (a b c d e:Value):World:=((((w.setCell ⟨X,0,none⟩ a).setCell ⟨X,1,none⟩ b).setCell ⟨X,2,none⟩ c).setCell ⟨X,3,none⟩ d).setCell ⟨X,4,none⟩ e
theorem st5_frx (w:World) (X:Nat) (a b c d e:Value):FrX X w (st5 w X a b c d e):=(((((FrX.refl X w).setCell rfl _).setCell rfl _).setCell rfl _).setCell rfl _).setCell rfl _
theorem st5_fr {w W:World} (h:Fr w W) {X:Nat} (hX:w.heap.size≤X) (a b c d e:Value):Fr w (st5 W X a b c d e):=((((h.setCell (p:=⟨X,0,none⟩) hX _).setCell (p:=⟨X,1,none⟩) hX _).setCell (p:=⟨X,2,none⟩) hX _).setCell (p:=⟨X,3,none⟩) hX _).setCell (p:=⟨X,4,none⟩) hX _
def MgN (w:World) (B K:Nat) (v:Value) (m:List (List UInt8 × JV)):Prop:=∃ S:Nat→Prop,MgT w S K v m ∧ ∀ b,S b→B≤b
end Go.Proofs.YtdhakbghdcfncaaGreatDoor
