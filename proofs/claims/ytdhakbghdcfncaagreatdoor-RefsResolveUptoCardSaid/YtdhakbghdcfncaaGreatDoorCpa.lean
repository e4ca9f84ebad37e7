/- As RegL, where number x and all that lie behind it may break the condition. -/
import Derived.Test.YtdhakbghdcfncaaGreatDoorKa
import Derived.Test.YtdhakbghdcfncaaGreatDoorTra
import Derived.Lib.SliceRun
namespace Go.Proofs.YtdhakbghdcfncaaGreatDoor
set_option maxRecDepth 100000
set_option maxHeartbeats 4000000
set_option linter.unusedVariables false
set_option linter.unusedSimpArgs false
open Go.RowKit

variable {P:Program} {md:Region.Mode} {ops:Array Oper} {Q:Exit→Act→World→Prop} {S:World→Prop}
/- The memory of tree.Copy: a list of values, a list of members, of which the first ones were copied. -/

def st5g (w:World) (g o:Nat) (u0 u1 u2 u3 u4:Value):World:=((((w.setCell ⟨g,o,none⟩ u0).setCell ⟨g,o+1,none⟩ u1).setCell ⟨g,o+2,none⟩ u2).setCell ⟨g,o+3,none⟩ u3).setCell ⟨g,o+4,none⟩ u4
structure CpI (W:World) (g:Nat) (l:List JV) (S O:Nat→Prop) (i:Nat):Prop where
 blk:∃ cur,Blk W g cur 25∧l.length*5≤cur.size
 at_:∀ k (h:k<l.length),∃ C f C' f',VC W g (k*5) l[k] C f C' f'∧InV W (if k<i then S else O) l[k] (vA l[k] C f C' f')
structure CqI (W:World) (g:Nat) (m:List (List UInt8 × JV)) (S O:Nat→Prop) (i:Nat):Prop where
 blk:∃ cur,Blk W g cur 39∧m.length*6≤cur.size
 at_:∀ k (h:k<m.length),∃ C f C' f',m[k].1.length≤140737488355328∧W.cell? ⟨g,k*6,none⟩=some (.string ⟨m[k].1.toArray⟩)∧VC W g (k*6+1) m[k].2 C f C' f'∧InV W (if k<i then S else O) m[k].2 (vA m[k].2 C f C' f')
theorem ite_lt {S O:Nat→Prop} {w:World} {P:Prop} [Decidable P] (hS:∀ b,S b→b<w.heap.size) (hO:∀ b,O b→b<w.heap.size):∀ b,(if P then S else O) b→b<w.heap.size:=fun b hb=>by
 split at hb
 ·exact hS b hb
 ·exact hO b hb
theorem ite_ne {S O:Nat→Prop} {g:Nat} {P:Prop} [Decidable P] (hS:∀ b,S b→b≠g) (hO:∀ b,O b→b≠g):∀ b,(if P then S else O) b→b≠g:=fun b hb=>by
 split at hb
 ·exact hS b hb
 ·exact hO b hb
theorem CqI.keep {W W':World} {g:Nat} {m:List (List UInt8 × JV)} {S O:Nat→Prop} {i:Nat} (h:CqI W g m S O i) (hf:Fr W W') (hS:∀ b,S b→b<W.heap.size) (hO:∀ b,O b→b<W.heap.size):CqI W' g m S O i:=by
 obtain ⟨cur,hb,hz⟩:=h.blk
 refine ⟨⟨cur,hb.keep hf,hz⟩,fun k hk=>?_⟩
 obtain ⟨C,f,C',f',h0,h00,h1,h2⟩:=h.at_ k hk
 exact ⟨C,f,C',f',h0,(hf.cell hb.lt).trans h00,h1.keep (fun j=>hf.cell hb.lt),h2.map (fun _ h=>h) (fun b o hb=>hf.cell (ite_lt hS hO b hb))⟩
theorem CqI.frx {W W':World} {g X:Nat} {m:List (List UInt8 × JV)} {S O:Nat→Prop} {i:Nat} (h:CqI W g m S O i) (hf:FrX X W W') (hg:g≠X) (hS:∀ b,S b→b<W.heap.size) (hO:∀ b,O b→b<W.heap.size) (hS2:∀ b,S b→b≠X) (hO2:∀ b,O b→b≠X):CqI W' g m S O i:=by
 obtain ⟨cur,hb,hz⟩:=h.blk
 refine ⟨⟨cur,hb.frx hf hg,hz⟩,fun k hk=>?_⟩
 obtain ⟨C,f,C',f',h0,h00,h1,h2⟩:=h.at_ k hk
 exact ⟨C,f,C',f',h0,(hf.cell hb.lt hg).trans h00,h1.keep (fun j=>hf.cell hb.lt hg),h2.map (fun _ h=>h) (fun b o hb=>hf.cell (ite_lt hS hO b hb) (ite_ne hS2 hO2 b hb))⟩
theorem CqI.more {W:World} {g:Nat} {m:List (List UInt8 × JV)} {S S' O:Nat→Prop} {i:Nat} (h:CqI W g m S O i) (hS:∀ b,S b→S' b):CqI W g m S' O i:=⟨h.blk,fun k hk=>by
 obtain ⟨C,f,C',f',h0,h00,h1,h2⟩:=h.at_ k hk
 exact ⟨C,f,C',f',h0,h00,h1,h2.more (fun b hb=>by split at hb <;> split <;> first | exact hS b hb | exact hb | (exfalso;omega))⟩⟩
theorem MsB.cq {w:World} {Z K n c:Nat} {A:Option Addr} {m:List (List UInt8 × JV)} (h:MsB w Z K (.slice A n c) m) (h0:0<m.length) (S:Nat→Prop):∃ g,A=some ⟨g,0,none⟩∧K≤g∧CqI w g m S (Lo Z) 0:=by
 obtain ⟨_,xs,hvb,hlen,hin⟩:=id h
 obtain ⟨_,⟨_,hn⟩ | ⟨g,cap,cur,hv,hb,hg,hc,hm,hs,ht⟩⟩:=hvb.1
 ·omega
 ·injection hv with e1 _ _
  refine ⟨g,e1,hb,⟨cur,hg,by rw [hs,← hlen];exact Nat.mul_le_mul_right _ hc⟩,fun k hk=>?_⟩
  have hx:k<xs.length:=by omega
  obtain ⟨e0,hnl,hv2⟩:=hin k hx hk
  obtain ⟨C,f,C',f',e⟩:=hv2.shape
  have hat:∀ j u,j<6→(Value.string ⟨xs[k].1.toArray⟩::xs[k].2.cells.toList)[j]? = some u→w.cell? ⟨g,k*6+j,none⟩=some u:=fun j u hj hu=>by
   have hm2:=mcs_at hvb.2 hx hj
   rw [hu] at hm2
   rw [cell_of_row w g _ cur _ (0,0) hg]
   rw [← ht,List.getElem?_take] at hm2
   split at hm2
   ·first | exact hm2 | (rw [Array.getElem?_toList] at hm2;exact hm2) | simpa using hm2
   ·cases hm2
  rw [e] at hat hv2
  rw [if_neg (by omega)]
  have a0:=hat 0 _ (by omega) rfl
  rw [e0] at a0
  exact ⟨C,f,C',f',hnl,a0,⟨hat 1 _ (by omega) rfl,hat 2 _ (by omega) rfl,hat 3 _ (by omega) rfl,hat 4 _ (by omega) rfl,hat 5 _ (by omega) rfl⟩,hv2⟩
theorem CqI.msC {W:World} {g:Nat} {m:List (List UInt8 × JV)} {S O S':Nat→Prop} (h:CqI W g m S O m.length) (hg:S' g) (hS:∀ b,S b→S' b):MsC W S' (some ⟨g,0,none⟩) m:=fun i hi=>by
 obtain ⟨C,f,C',f',h0,h00,h1,h2⟩:=h.at_ i hi
 rw [if_pos hi] at h2
 exact ⟨g,0,C,f,C',f',rfl,hg,h0,by rw [Nat.zero_add];exact h00,by rw [Nat.zero_add];exact h1,h2.more hS⟩
theorem InV.both {W:World} {S:Nat→Prop} {l:List JV} {m:List (List UInt8 × JV)} {A:Option Addr} {c:Nat} {A':Option Addr} {c':Nat} (hl:LsC W S A l) (hm:MsC W S A' m) (l63:l.length≤140737488355328) (m63:m.length≤140737488355328) (k n:Int) (s:List UInt8)
  (hn1:-9223372036854775808≤n) (hn2:n≤9223372036854775807) (hk1:-9223372036854775808≤k) (hk2:k≤9223372036854775807) (hs:s.length≤140737488355328):
  InV W S (.mk k n s l m) (.agg #[.int .i64 k,.int .i64 n,.string ⟨s.toArray⟩,.slice A l.length c,.slice A' m.length c']):=by
 refine InV.mk k n s l m A A' c c' (fun i j=>match A with | some a=>(W.cell? ⟨a.block,a.off+i*5+j,none⟩).getD (.int .i64 0) | none=>.int .i64 0) (fun i j=>match A' with | some a=>(W.cell? ⟨a.block,a.off+i*6+j,none⟩).getD (.int .i64 0) | none=>.int .i64 0) hn1 hn2 hk1 hk2 hs l63 m63 (fun i hi=>?_) (fun h0=>?_) (fun i hi=>?_) (fun h0=>?_)
 ·obtain ⟨b,o,B,d,B',d',rfl,hb,⟨c1,c2,c3,c4,c5⟩,hv⟩:=hl i hi
  simp only [Nat.add_zero,c1,c2,c3,c4,c5,Option.getD_some]
  exact hv
 ·obtain ⟨b,o,B,d,B',d',rfl,hb,_⟩:=hl 0 h0
  refine ⟨b,o,rfl,hb,fun i j hi hj=>?_⟩
  obtain ⟨b2,o2,B,d,B',d',he,_,⟨c1,c2,c3,c4,c5⟩,_⟩:=hl i hi
  injection he with he;injection he with e1 e2 _
  subst e1;subst e2
  rcases (by omega:j=0∨j=1∨j=2∨j=3∨j=4) with rfl | rfl | rfl | rfl | rfl
  ·simp only [Nat.add_zero,c1,Option.getD_some]
  ·simp only [c2,Option.getD_some]
  ·simp only [c3,Option.getD_some]
  ·simp only [c4,Option.getD_some]
  ·simp only [c5,Option.getD_some]
 ·obtain ⟨b,o,B,d,B',d',rfl,hb,_,_,⟨c1,c2,c3,c4,c5⟩,hv⟩:=hm i hi
  simp only [Nat.add_assoc] at c1 c2 c3 c4 c5 ⊢
  simp only [c1,c2,c3,c4,c5,Option.getD_some]
  exact hv
 ·obtain ⟨b,o,B,d,B',d',rfl,hb,_⟩:=hm 0 h0
  refine ⟨b,o,rfl,hb,fun i hi=>?_⟩
  obtain ⟨b2,o2,B,d,B',d',he,_,hnl,c0,⟨c1,c2,c3,c4,c5⟩,_⟩:=hm i hi
  injection he with he;injection he with e1 e2 _
  subst e1;subst e2
  refine ⟨by simp only [Nat.add_zero,c0,Option.getD_some],hnl,fun j hj=>?_⟩
  simp only [Nat.add_assoc] at c0 c1 c2 c3 c4 c5 ⊢
  rcases (by omega:j=0∨j=1∨j=2∨j=3∨j=4∨j=5) with rfl | rfl | rfl | rfl | rfl | rfl
  ·simp only [Nat.add_zero,c0,Option.getD_some]
  ·simp only [c1,Option.getD_some]
  ·simp only [c2,Option.getD_some]
  ·simp only [c3,Option.getD_some]
  ·simp only [c4,Option.getD_some]
  ·simp only [c5,Option.getD_some]
/- slices.Clone at values. -/

theorem vsb_frC {w a b:World} {Z K:Nat} {v:Value} {l:List JV} (hf:Fr w a) (hv:VsB a Z K v l) (hK:w.heap.size≤K) (hg:a.grownBy b v.ownBlock):Fr w b:=
 Below.grown hf hg hf.size (fun k hk=>by have:=(hv.own_lt hk).1;omega)
/- tree.Copy: the same value, in new memory. -/

theorem Fr.thenY {w W W':World} {R:Nat} (h:Fr w W) (hR:w.heap.size≤R) (hR2:R≤W.heap.size) (hx:FrX R W W'):Fr w W':=Below.trans h ((hx.below hR2).mono hR)
def CpAt (u:JV):Prop:=∀ (x:Value) (w:World),InV w (Lo w.heap.size) u x→Rd.nv u≤1048576→Calls Tryz.prog 16 #[x] w fun e w'=>(∃ (C:Option Addr) (f:Nat) (C':Option Addr) (f':Nat),e=.returned (vA u C f C' f')∧InV w' (Be w.heap.size w'.heap.size) u (vA u C f C' f'))∧Fr w w'
def CpQ (u:JV):Prop:=∀ (x:Value) (w:World),InV w (Lo w.heap.size) u x→Rd.nv u≤1048576→Calls Tryz.prog 16 #[x] w fun e w'=>(∃ (C:Option Addr) (f:Nat) (C':Option Addr) (f':Nat),e=.returned (vA u C f C' f')∧InV w' (Be w.heap.size w'.heap.size) u (vA u C f C' f')∧(0<u.ms.length → ∃ g,C'=some ⟨g,0,none⟩∧w.heap.size≤g∧CqI w' g u.ms (fun b=>Be w.heap.size w'.heap.size b∧b≠g) (Lo w.heap.size) u.ms.length))∧Fr w w'
/- One member stored anew in a block that a call owns. -/

def st6q (w:World) (g o:Nat) (s u0 u1 u2 u3 u4:Value):World:=((((((w.setCell ⟨g,o,none⟩ s).setCell ⟨g,o+1,none⟩ u0).setCell ⟨g,o+2,none⟩ u1).setCell ⟨g,o+3,none⟩ u2).setCell ⟨g,o+4,none⟩ u3).setCell ⟨g,o+5,none⟩ u4)
theorem st6q_eq (w:World) (g o:Nat) (s u0 u1 u2 u3 u4:Value):st6q w g o s u0 u1 u2 u3 u4=st5g (w.setCell ⟨g,o,none⟩ s) g (o+1) u0 u1 u2 u3 u4:=rfl
theorem st6q_frx (w:World) (g o:Nat) (s u0 u1 u2 u3 u4:Value):FrX g w (st6q w g o s u0 u1 u2 u3 u4):=((((((FrX.refl g w).setCell rfl _).setCell rfl _).setCell rfl _).setCell rfl _).setCell rfl _).setCell rfl _
theorem st6q_blk {w:World} {g o:Nat} {cur:Array Value} {T:TypeId} (h:Blk w g cur T) (s u0 u1 u2 u3 u4:Value):∃ cur',Blk (st6q w g o s u0 u1 u2 u3 u4) g cur' T∧cur'.size=cur.size:=
 ⟨_,(((((h.set o s).set (o+1) u0).set (o+2) u1).set (o+3) u2).set (o+4) u3).set (o+5) u4,by simp⟩
theorem st6q_size (w:World) (g o:Nat) (s u0 u1 u2 u3 u4:Value):(st6q w g o s u0 u1 u2 u3 u4).heap.size=w.heap.size:=by simp [st6q,World.setCell]
/- Slices of members that a call made itself; what they hold lies in S, anywhere but in their own block. -/

def MgT (w:World) (S:Nat→Prop) (K:Nat) (v:Value) (m:List (List UInt8 × JV)):Prop:=((∀ b,S b→b<w.heap.size∧v.ownBlock≠some b)∧K≤w.heap.size) ∧ ∃ xs:List (List UInt8 × Value),Mbs w K v xs∧xs.length=m.length ∧ ∀ i (h1:i<xs.length) (h2:i<m.length),xs[i].1=m[i].1∧m[i].1.length≤140737488355328∧InV w (S) m[i].2 xs[i].2
def st5 (w:World) (X:Nat) (a b c d e:Value):World:=((((w.setCell ⟨X,0,none⟩ a).setCell ⟨X,1,none⟩ b).setCell ⟨X,2,none⟩ c).setCell ⟨X,3,none⟩ d).setCell ⟨X,4,none⟩ e
theorem st5_frx (w:World) (X:Nat) (a b c d e:Value):FrX X w (st5 w X a b c d e):=(((((FrX.refl X w).setCell rfl _).setCell rfl _).setCell rfl _).setCell rfl _).setCell rfl _
theorem st5_fr {w W:World} (h:Fr w W) {X:Nat} (hX:w.heap.size≤X) (a b c d e:Value):Fr w (st5 W X a b c d e):=((((h.setCell (p:=⟨X,0,none⟩) hX _).setCell (p:=⟨X,1,none⟩) hX _).setCell (p:=⟨X,2,none⟩) hX _).setCell (p:=⟨X,3,none⟩) hX _).setCell (p:=⟨X,4,none⟩) hX _
def MgN (w:World) (B K:Nat) (v:Value) (m:List (List UInt8 × JV)):Prop:=∃ S:Nat→Prop,MgT w S K v m ∧ ∀ b,S b→B≤b
end Go.Proofs.YtdhakbghdcfncaaGreatDoor
