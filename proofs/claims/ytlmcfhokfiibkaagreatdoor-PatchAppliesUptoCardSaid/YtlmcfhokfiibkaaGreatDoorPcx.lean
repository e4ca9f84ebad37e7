/- tree.Without: slices.DeleteFunc at members. -/
import Derived.Test.YtlmcfhokfiibkaaGreatDoorCpa
import Derived.Test.YtlmcfhokfiibkaaGreatDoorBka
import Derived.Laws.IdiomCopy
import Derived.Test.YtlmcfhokfiibkaaGreatDoorTra
namespace Go.Proofs.YtlmcfhokfiibkaaGreatDoor
set_option maxRecDepth 100000
set_option maxHeartbeats 4000000
set_option linter.unusedVariables false
set_option linter.unusedSimpArgs false
open Go.RowKit

theorem Bk.wo_take {m:List (List UInt8 × JV)} {s:List UInt8} {i:Nat} (hi:i<m.length):Bk.woM (m.take (i+1)) s=Bk.woM (m.take i) s++(if m[i].1=s then [] else [m[i]]):=by
 rw [List.take_succ_eq_append_getElem hi]
 unfold Bk.woM
 rw [List.filter_append]
 by_cases h:m[i].1=s
 ·rw [if_pos h,List.filter_cons_of_neg (by simp [h])];rfl
 ·rw [if_neg h,List.filter_cons_of_pos (by simp [h])];rfl
theorem Bk.wo_all:∀ {m:List (List UInt8 × JV)} {s:List UInt8},(∀ y (hy:y<m.length),m[y].1≠s)→Bk.woM m s=m:=fun {m s} h=>by
 unfold Bk.woM
 rw [List.filter_eq_self]
 intro p hp
 obtain ⟨y,hy,rfl⟩:=List.mem_iff_getElem.1 hp
 simpa using h y hy
theorem Bk.wo_len (m:List (List UInt8 × JV)) (s:List UInt8):(Bk.woM m s).length≤m.length:=List.length_filter_le _ _
theorem wo1_is (nt s:List UInt8) (u:JV) (C:Option Addr) (f:Nat) (C':Option Addr) (f':Nat) (X:Nat) (w:World) (hX:X<w.heap.size) (hc:w.cell? ⟨X,0,none⟩=some (.string ⟨s.toArray⟩)) (b:Bool) (hb:decide (nt=s)=b):
  Calls Tryz.prog 72 #[.agg #[.string ⟨nt.toArray⟩,.int .i64 u.kd,.int .i64 u.nm,.string ⟨u.tx.toArray⟩,.slice C u.ls.length f,.slice C' u.ms.length f'],.pointer (some ⟨X,0,none⟩)] w fun e w'=>e=.returned (.bool b)∧Fr w w':=by
 have h2:((⟨nt.toArray⟩:ByteArray).toList == (⟨s.toArray⟩:ByteArray).toList)=b:=by rw [bl_beq'];exact hb
 have h3:(nt == s)=b:=by rw [← hb,Bool.eq_iff_iff];simp
 have hc2:=(((Fr.refl w).alloc (.cells #[.string ⟨nt.toArray⟩,.int .i64 u.kd,.int .i64 u.nm,.string ⟨u.tx.toArray⟩,.slice C u.ls.length f,.slice C' u.ms.length f'] 38)).cell (o:=0) hX).trans hc
 clear hb
 go_enter Tryz.func72,Tryz.ntmps72
 go_wp2_with fail
 go_ret
 exact ⟨rfl,(Fr.refl w).alloc _⟩
def MemC (W:World) (g o:Nat) (p:List UInt8 × JV) (O:Nat→Prop):Prop:=∃ C f C' f',p.1.length≤140737488355328∧W.cell? ⟨g,o,none⟩=some (.string ⟨p.1.toArray⟩)∧VC W g (o+1) p.2 C f C' f'∧InV W O p.2 (vA p.2 C f C' f')
theorem MemC.to {W W':World} {g o:Nat} {p:List UInt8 × JV} {O:Nat→Prop} (h:MemC W g o p O) (hc:∀ j,j<6→W'.cell? ⟨g,o+j,none⟩=W.cell? ⟨g,o+j,none⟩) (hO:∀ b q,O b→W'.cell? ⟨b,q,none⟩=W.cell? ⟨b,q,none⟩):MemC W' g o p O:=by
 obtain ⟨C,f,C',f',h0,h1,⟨a0,a1,a2,a3,a4⟩,h3⟩:=h
 exact ⟨C,f,C',f',h0,(hc 0 (by omega)).trans h1,⟨(hc 1 (by omega)).trans a0,(hc 2 (by omega)).trans a1,(hc 3 (by omega)).trans a2,(hc 4 (by omega)).trans a3,(hc 5 (by omega)).trans a4⟩,h3.map (fun _ h=>h) hO⟩
def st6g (w:World) (g o:Nat) (u0 u1 u2 u3 u4 u5:Value):World:=(((((w.setCell ⟨g,o,none⟩ u0).setCell ⟨g,o+1,none⟩ u1).setCell ⟨g,o+2,none⟩ u2).setCell ⟨g,o+3,none⟩ u3).setCell ⟨g,o+4,none⟩ u4).setCell ⟨g,o+5,none⟩ u5
theorem st6g_frx (w:World) (g o:Nat) (u0 u1 u2 u3 u4 u5:Value):FrX g w (st6g w g o u0 u1 u2 u3 u4 u5):=((((((FrX.refl g w).setCell rfl _).setCell rfl _).setCell rfl _).setCell rfl _).setCell rfl _).setCell rfl _
theorem st6g_blk {w:World} {g o:Nat} {cur:Array Value} {T:TypeId} (h:Blk w g cur T) (u0 u1 u2 u3 u4 u5:Value) (ho:o+5<cur.size):∃ cur',Blk (st6g w g o u0 u1 u2 u3 u4 u5) g cur' T∧cur'.size=cur.size∧(cur'[o]? = some u0∧cur'[o+1]? = some u1∧cur'[o+2]? = some u2∧cur'[o+3]? = some u3∧cur'[o+4]? = some u4∧cur'[o+5]? = some u5) ∧ ∀ p,(∀ j,j<6→p≠o+j)→cur'[p]? = cur[p]?:=by
 refine ⟨_,(((((h.set o u0).set (o+1) u1).set (o+2) u2).set (o+3) u3).set (o+4) u4).set (o+5) u5,by simp,?_,fun p hp=>?_⟩
 ·refine ⟨?_,?_,?_,?_,?_,?_⟩ <;> simp [Array.getElem?_setIfInBounds] <;> omega
 ·have h0:=hp 0 (by omega)
  have h1:=hp 1 (by omega)
  have h2:=hp 2 (by omega)
  have h3:=hp 3 (by omega)
  have h4:=hp 4 (by omega)
  have h5:=hp 5 (by omega)
  rw [Array.getElem?_setIfInBounds_ne (by omega),Array.getElem?_setIfInBounds_ne (by omega),Array.getElem?_setIfInBounds_ne (by omega),Array.getElem?_setIfInBounds_ne (by omega),Array.getElem?_setIfInBounds_ne (by omega),Array.getElem?_setIfInBounds_ne (by omega)]
structure DfI (W:World) (g:Nat) (m kp:List (List UInt8 × JV)) (O:Nat→Prop) (i:Nat):Prop where
 blk:∃ cur,Blk W g cur 38∧m.length*6≤cur.size
 kept:∀ k (h:k<kp.length),MemC W g (k*6) kp[k] O
 rest:∀ k (h:k<m.length),i≤k→MemC W g (k*6) m[k] O
theorem DfI.start {W:World} {g:Nat} {m:List (List UInt8 × JV)} {S O:Nat→Prop} (h:CqI W g m S O 0) (i:Nat):DfI W g m (m.take i) O i:=
 have hat:∀ k (h:k<m.length),MemC W g (k*6) m[k] O:=fun k hk=>by
  obtain ⟨C,f,C',f',h1,h2,h3,h4⟩:=h.at_ k hk
  rw [if_neg (Nat.not_lt_zero k)] at h4
  exact ⟨C,f,C',f',h1,h2,h3,h4⟩
 ⟨h.blk,fun k hk=>by rw [List.getElem_take];exact hat k (by rw [List.length_take] at hk;omega),fun k hk _=>hat k hk⟩
theorem DfI.keep {W W':World} {g:Nat} {m kp:List (List UInt8 × JV)} {O:Nat→Prop} {i:Nat} (h:DfI W g m kp O i) (hf:Fr W W') (hO:∀ b,O b→b<W.heap.size):DfI W' g m kp O i:=by
 obtain ⟨⟨cur,hb,hz⟩,h2,h3⟩:=h
 exact ⟨⟨cur,hb.keep hf,hz⟩,fun k hk=>(h2 k hk).to (fun j _=>hf.cell hb.lt) (fun b q hq=>hf.cell (hO b hq)),fun k hk hi=>(h3 k hk hi).to (fun j _=>hf.cell hb.lt) (fun b q hq=>hf.cell (hO b hq))⟩
theorem DfI.next {W:World} {g:Nat} {m kp:List (List UInt8 × JV)} {O:Nat→Prop} {i:Nat} (h:DfI W g m kp O i):DfI W g m kp O (i+1):=⟨h.blk,h.kept,fun k hk hi=>h.rest k hk (by omega)⟩
theorem DfI.step {W:World} {g:Nat} {m kp:List (List UInt8 × JV)} {O:Nat→Prop} {i j:Nat} (h:DfI W g m kp O i) (hi:i<m.length) (hj:kp.length=j) (hk:j≤i) (hO:∀ b,O b→b≠g) (hOl:∀ b,O b→b<W.heap.size) {nt:List UInt8} {u:JV} (he:m[i]=(nt,u)) (hn:nt.length≤140737488355328) {C:Option Addr} {f:Nat} {C':Option Addr} {f':Nat} (hx:InV W O u (vA u C f C' f')):
  DfI (st6g W g (j*6) (.string ⟨nt.toArray⟩) (.int .i64 u.kd) (.int .i64 u.nm) (.string ⟨u.tx.toArray⟩) (.slice C u.ls.length f) (.slice C' u.ms.length f')) g m (kp++[(nt,u)]) O (i+1):=by
 obtain ⟨⟨cur,hb,hz⟩,h2,h3⟩:=h
 obtain ⟨cur',hb',hz',⟨c0,c1,c2,c3,c4,c5⟩,hot⟩:=st6g_blk hb (.string ⟨nt.toArray⟩) (.int .i64 u.kd) (.int .i64 u.nm) (.string ⟨u.tx.toArray⟩) (.slice C u.ls.length f) (.slice C' u.ms.length f') (o:=j*6) (by omega)
 have hfx:=st6g_frx W g (j*6) (.string ⟨nt.toArray⟩) (.int .i64 u.kd) (.int .i64 u.nm) (.string ⟨u.tx.toArray⟩) (.slice C u.ls.length f) (.slice C' u.ms.length f')
 generalize st6g W g (j*6) (.string ⟨nt.toArray⟩) (.int .i64 u.kd) (.int .i64 u.nm) (.string ⟨u.tx.toArray⟩) (.slice C u.ls.length f) (.slice C' u.ms.length f')=W9 at hb' hfx ⊢
 have hcc:∀ k,k≠j → ∀ t,t<6→W9.cell? ⟨g,k*6+t,none⟩=W.cell? ⟨g,k*6+t,none⟩:=fun k hk t ht=>by
  rw [hb'.cell,hb.cell,hot _ (fun q hq=>by omega)]
 have hoo:∀ b q,O b→W9.cell? ⟨b,q,none⟩=W.cell? ⟨b,q,none⟩:=fun b q hq=>by
  exact hfx.cell (hOl b hq) (hO b hq)
 refine ⟨⟨cur',hb',by omega⟩,fun k hk2=>?_,fun k hk2 hik=>(h3 k hk2 (by omega)).to (hcc k (by omega)) hoo⟩
 rw [List.length_append,List.length_singleton] at hk2
 by_cases hkj:k<kp.length
 ·rw [List.getElem_append_left hkj]
  exact (h2 k hkj).to (hcc k (by omega)) hoo
 ·obtain rfl:k=j:=by omega
  rw [List.getElem_append_right (by omega)]
  simp only [List.getElem_singleton]
  exact ⟨C,f,C',f',hn,(hb'.cell _).trans c0,⟨(hb'.cell _).trans c1,(hb'.cell _).trans c2,(hb'.cell _).trans c3,(hb'.cell _).trans c4,(hb'.cell _).trans c5⟩,hx.map (fun _ h=>h) hoo⟩
theorem idxwo_is (m:List (List UInt8 × JV)) (A:Option Addr) (c X:Nat) (s:List UInt8) (w:World) (Z:Nat) (hZ:Z≤w.heap.size) (h:MsC w (Lo Z) A m) (hl:m.length≤140737488355328) (hX:X<w.heap.size) (hc:w.cell? ⟨X,0,none⟩=some (.string ⟨s.toArray⟩)):
  Calls Tryz.prog 90 #[.slice A m.length c,(Value.func (.func 72) #[] #[.pointer (some ⟨X,0,none⟩)])] w fun e w'=>(((∀ y (hy:y<m.length),m[y].1≠s)∧e=.returned (.int .i64 (-1))) ∨ ∃ i:Nat,∃ hi:i<m.length,(∀ y (hy:y<m.length),y<i→m[y].1≠s)∧m[i].1=s∧e=.returned (.int .i64 i))∧Fr w w':=by
 have HP:=Lib.hid h
 have hl':(m.length:Int)≤140737488355328:=by omega
 have HW:Hid (∀ W,Fr w W → ∀ nt (u:JV) C f C' f' b,decide (nt=s)=b→Calls Tryz.prog 72 #[.agg #[.string ⟨nt.toArray⟩,.int .i64 u.kd,.int .i64 u.nm,.string ⟨u.tx.toArray⟩,.slice C u.ls.length f,.slice C' u.ms.length f'],.pointer (some ⟨X,0,none⟩)] W fun e w'=>e=.returned (.bool b)∧Fr W w'):=Lib.hid (fun W hW nt u C f C' f' b hb=>wo1_is nt s u C f C' f' X W (Nat.lt_of_lt_of_le hX hW.size) ((hW.cell hX).trans hc) b hb)
 clear h hX hc
 go_enter Tryz.func90,Tryz.ntmps90
 go_wp2_with fail
 go_loopw [8] (fun j wr=>∃ (i:Nat),i≤m.length∧j=.int .i64 i∧Hid (∀ y (hy:y<m.length),y<i→m[y].1≠s)∧Hid (Fr w wr)) (fun j _=>m.length - (intOf j).toNat)
 case atStart=>exact ⟨0,by omega,rfl,Lib.hid (fun y _ h=>absurd h (by omega)),Lib.hid (Fr.refl w)⟩
 case round=>
  obtain ⟨i,hi,rfl,hO,hF⟩:=hrel
  by_cases hlt:i<m.length
  ·have hlt':(i:Int)<(m.length:Int):=by omega
   obtain ⟨b,o,C,e,C',e',rfl,hb,hnl,c0,⟨c1,c2,c3,c4,c5⟩,hu⟩:=(HP.out.keep hZ hF.out) i hlt
   obtain ⟨q,hq⟩:∃ q,m[i].1=q:=⟨_,rfl⟩
   obtain ⟨u,hxu⟩:∃ u,m[i].2=u:=⟨_,rfl⟩
   rw [hq] at c0
   rw [hxu] at c1 c2 c3 c4 c5
   obtain ⟨cb,hcb⟩:∃ cb,decide (q=s)=cb:=⟨_,rfl⟩
   have HCB:=Lib.hid hcb
   have HQ:=Lib.hid hq
   clear hb hcb hq hxu hu hnl
   cases cb
   ·go_wp2_with (go_at_call 72;refine (HW.out _ hF.out _ _ _ _ _ _ _ HCB.out).mono ?_;rintro e w1 ⟨rfl,hf⟩;have HF1:=Lib.hid (hF.out.trans hf);clear hf)
    exact ⟨⟨i+1,by omega,by go_num,Lib.hid (fun y hy hyt=>by
     by_cases e:y=i
     ·subst e;rw [HQ.out];exact of_decide_eq_false HCB.out
     ·exact hO.out y hy (by omega)),HF1⟩,by simp [intOf];omega⟩
   ·go_wp2_with (go_at_call 72;refine (HW.out _ hF.out _ _ _ _ _ _ _ HCB.out).mono ?_;rintro e w1 ⟨rfl,hf⟩;have HF1:=Lib.hid (hF.out.trans hf);clear hf)
    go_ret
    exact ⟨.inr ⟨i,hlt,hO.out,by rw [HQ.out];exact of_decide_eq_true HCB.out,rfl⟩,HF1.out⟩
  ·obtain rfl:i=m.length:=by omega
   go_wp2_with fail
   go_ret
   exact ⟨.inl ⟨fun y hy=>hO.out y hy hy,rfl⟩,hF.out⟩
def z6:List Value:=[.string ⟨#[]⟩,.int .i64 0,.int .i64 0,.string ⟨#[]⟩,.slice none 0 0,.slice none 0 0]
def zs6:Nat→List Value
 | 0=>[]
 | n+1=>z6++zs6 n
theorem zs6_len:∀ n,(zs6 n).length=n*6
 | 0=>rfl
 | n+1=>by unfold zs6;rw [List.length_append,zs6_len n];show 6+n*6=_;omega
theorem zs6_at:∀ (n i:Nat),i<n*6→(zs6 n)[i]? = z6[i % 6]?
 | 0,i,h=>by omega
 | n+1,i,h=>by
  unfold zs6
  by_cases h6:i<6
  ·rw [List.getElem?_append_left (by show i<6;exact h6),Nat.mod_eq_of_lt h6]
  ·rw [List.getElem?_append_right (by show 6≤i;omega)]
   show (zs6 n)[i - 6]? = _
   rw [zs6_at n (i - 6) (by omega)]
   congr 1
   omega
theorem zs6_one (n:Nat):∀ v∈zs6 n,v.oneCell'=true:=by
 induction n with
 | zero=>intro v hv;cases hv
 | succ n ih=>
  intro v hv
  rcases List.mem_append.1 hv with hv | hv
  ·simp [z6] at hv
   rcases hv with rfl | rfl | rfl | rfl <;> rfl
  ·exact ih v hv
theorem run_clear_m (w:World) (ty:TypeId) (g o n c:Nat) (hn:0<n) (hc:∀ j,j<n*6→(w.cell? ⟨g,o+j,none⟩).isSome=true) (hf:∀ j,j<n*6→w.frozen? ⟨g,o+j,none⟩=false):
  (Builtin.clear_ #[23] ty #[.slice (some ⟨g,o,none⟩) n c]).run Tryz.prog w=.ok (.tuple #[]) (w.setCells g o (zs6 n)):=by
 have hzc:(Builtin.zeroCells z6.toArray n).toList=zs6 n:=by
  apply List.ext_getElem?
  intro i
  by_cases hi:i<n*6
  ·rw [zs6_at n i hi]
   have h6:i % 6<6:=Nat.mod_lt _ (by omega)
   unfold Builtin.zeroCells
   simp [z6,Nat.mul_comm,hi,Array.getElem?_ofFn]
   rw [List.getElem?_eq_getElem (by exact h6)];rfl
  ·rw [List.getElem?_eq_none (by simp [Builtin.zeroCells,z6];omega),List.getElem?_eq_none (by rw [zs6_len];omega)]
 have hst:=run_storeCells_cells (P:=Tryz.prog) g o (zs6 n) 0 w (by simpa [zs6_len] using hc) (by simpa [zs6_len] using hf) (zs6_one n)
 simp only [Nat.add_zero] at hst
 have ht:Tryz.prog.underlying 23=some (.slice 38):=Tryz.underlying23
 have hv:∀ W,(zeroValue 38).run Tryz.prog W=.ok (.agg z6.toArray) W:=fun W=>by kernel_rfl
 obtain ⟨k,rfl⟩:∃ k,n=k+1:=⟨n - 1,by omega⟩
 simp [Builtin.clear_,run_underlying ht,hv,Value.cells,hzc,hst]
theorem setCells_frx (g:Nat):∀ (vs:List Value) (o:Nat) (w:World),FrX g w (w.setCells g o vs)
 | [],_,w=>FrX.refl g w
 | v::r,o,w=>((FrX.refl g w).setCell (p:=⟨g,o,none⟩) rfl v).trans (setCells_frx g r (o+1) _)
theorem boxz2 {w:World} {o1 o2:Obj} {cs:Array Value} {T:TypeId} (h:Blk (((w.alloc o1).alloc o2).alloc (.cells cs T)) ((w.alloc o1).alloc o2).heap.size cs T):Blk (((w.alloc o1).alloc o2).alloc (.cells cs T)) (w.heap.size+1+1) cs T:=by
 have e:((w.alloc o1).alloc o2).heap.size=w.heap.size+1+1:=(show ((w.alloc o1).alloc o2).heap.size=(w.alloc o1).heap.size+1 from Array.size_push _).trans (congrArg (· + 1) (show (w.alloc o1).heap.size=w.heap.size+1 from Array.size_push _))
 rwa [e] at h
/- Slices of members whose contents lie in S; tree.With and the document's With over a set S. -/

theorem InV.keepS {w w':World} {S:Nat→Prop} {v:JV} {x:Value} (h:InV w S v x) (hS:∀ b,S b→b<w.heap.size) (hf:Fr w w'):InV w' S v x:=h.map (fun _ h=>h) (fun b o hb=>hf.cell (hS b hb))
def MgS (w:World) (S:Nat→Prop) (K:Nat) (v:Value) (m:List (List UInt8 × JV)):Prop:=((∀ b,S b→b<K)∧K≤w.heap.size) ∧ ∃ xs:List (List UInt8 × Value),Mbs w K v xs∧xs.length=m.length ∧ ∀ i (h1:i<xs.length) (h2:i<m.length),xs[i].1=m[i].1∧m[i].1.length≤140737488355328∧InV w (S) m[i].2 xs[i].2
theorem okS {S:Nat→Prop} {K:Nat} {w:World} {v:Value} (hK:(∀ b,S b→b<K)∧K≤w.heap.size) {xs:List (List UInt8 × Value)} (h:Mbs w K v xs) {b:Nat} (hb:S b):b<w.heap.size∧v.ownBlock≠some b:=
 ⟨Nat.lt_of_lt_of_le (hK.1 b hb) hK.2,fun e=>by have:=(h.own_ltB e).1;have:=hK.1 b hb;omega⟩
theorem MgS.none_ (w:World) {S:Nat→Prop} {K:Nat} (h:(∀ b,S b→b<K)∧K≤w.heap.size):MgS w S K (.slice none 0 0) []:=⟨h,[],Mbs.none_ w K,rfl,fun i h=>absurd h (by simp)⟩
theorem MgS.keep {w w':World} {S:Nat→Prop} {K:Nat} {v:Value} {l:List (List UInt8 × JV)} (h:MgS w S K v l) (hf:Fr w w'):MgS w' S K v l:=by
 obtain ⟨h0,xs,h1,h2,h3⟩:=h
 exact ⟨⟨h0.1,Nat.le_trans h0.2 hf.size⟩,xs,h1.keep hf,h2,fun i a b=>⟨(h3 i a b).1,(h3 i a b).2.1,(h3 i a b).2.2.map (fun _ h=>h) (fun b o hs=>hf.cell (okS h0 h1 hs).1)⟩⟩
theorem MgS.frx {w w':World} {S:Nat→Prop} {X K:Nat} {v:Value} {l:List (List UInt8 × JV)} (h:MgS w S K v l) (hZ:∀ b,S b→b≠X) (hX:X<K) (hf:FrX X w w'):MgS w' S K v l:=by
 obtain ⟨h0,xs,h1,h2,h3⟩:=h
 refine ⟨⟨h0.1,Nat.le_trans h0.2 hf.size⟩,xs,h1.frx hX hf,h2,fun i a b=>⟨(h3 i a b).1,(h3 i a b).2.1,(h3 i a b).2.2.map (fun _ h=>h) (fun b o hs=>hf.cell (okS h0 h1 hs).1 (fun e=>?_))⟩⟩
 exact hZ _ hs e
theorem MgS.is_slice {w:World} {S:Nat→Prop} {K:Nat} {v:Value} {l:List (List UInt8 × JV)} (h:MgS w S K v l):∃ a c,v=.slice a l.length c:=by
 obtain ⟨_,xs,h1,h2,_⟩:=h
 rcases h1.form with ⟨rfl,rfl⟩ | ⟨g,cap,rfl,_⟩
 ·exact ⟨none,0,by rw [← h2];rfl⟩
 ·exact ⟨_,_,by rw [h2]⟩
theorem MgS.is_slice2 {w:World} {S:Nat→Prop} {K:Nat} {v:Value} {l us:List (List UInt8 × JV)} (h:MgS w S K v (l++us)) {n:Nat} (hn:us.length=n):∃ a c,v=.slice a (l.length+n) c:=by
 obtain ⟨a,c,e⟩:=h.is_slice;exact ⟨a,c,by rw [e,List.length_append,hn]⟩
theorem MgS.own_lt {w:World} {S:Nat→Prop} {K:Nat} {v:Value} {l:List (List UInt8 × JV)} (h:MgS w S K v l) {k:Nat} (hk:v.ownBlock=some k):K≤k∧k<w.heap.size:=by
 obtain ⟨_,xs,h1,_⟩:=h;exact h1.own_ltB hk
theorem MgS.inV {w:World} {S:Nat→Prop} {K:Nat} {v:Value} {l:List (List UInt8 × JV)} (h:MgS w S K v l) (h63:l.length≤140737488355328):InV w (fun b=>S b∨(K≤b∧b<w.heap.size)) (JV.mapV l) (.agg #[.int .i64 6,.int .i64 0,.string ⟨#[]⟩,.slice none 0 0,v]):=by
 obtain ⟨h0,xs,h1,h2,h3⟩:=h
 exact h1.inV h2 h63 (fun g hg hl=>.inr ⟨hg,hl⟩) (fun i a b=>⟨(h3 i a b).1,(h3 i a b).2.1,(h3 i a b).2.2.more (fun b hb=>.inl hb)⟩)
theorem run_mSk {w:World} (ty:TypeId) (S:Nat→Prop) (K:Nat) (v:Value) (l:List (List UInt8 × JV)) (hown:MgS w S K v l) (ad:Addr) (c:Nat) (us:List (List UInt8 × JV)) (news:List (List UInt8 × Value)) (hln:news.length=us.length) (h5:∀ p∈news,Five p.2) (hu:∀ i (h1:i<news.length) (h2:i<us.length),news[i].1=us[i].1∧us[i].1.length≤140737488355328∧InV w (S) us[i].2 news[i].2)
  (hcells:∀ j u,(mcs news)[j]? = some u→w.cell? (ad.add j)=some u) (h63:(l.length+us.length)*96≤140737488355328):
  ∃ v' w',(Builtin.append_ #[23,23] ty #[v,.slice (some ad) us.length c]).run Tryz.prog w=.ok v' w'∧MgS w' S K v' (l++us)∧w.grownBy w' v.ownBlock∧(v'.ownBlock=v.ownBlock∨v'.ownBlock=some w.heap.size):=by
 obtain ⟨h0,xs,hvb,hlen,hin⟩:=hown
 obtain ⟨i,hi,hz,hsz,hby⟩:=info_parts mb_info
 obtain ⟨v',w',hr,h3,h4,_,h6⟩:=run_append_own_at (P:=Tryz.prog) w K 23 ty 38 i _ 6 96 Tryz.underlying23 hi hz hsz hby rfl (by omega) v _ (mcs xs) hvb.1 ad us.length c (mcs news) (by rw [← hln];exact mcs_len h5) hcells (mcs_one h5) (by unfold maxLen;omega) (by omega) h0.2
 have hC:∀ b o,S b→w'.cell? ⟨b,o,none⟩=w.cell? ⟨b,o,none⟩:=fun b o hb=>by
  have hk:=okS h0 hvb hb
  unfold World.cell?;rw [h4.block b hk.1 (fun e=>hk.2 e.symm)]
 refine ⟨v',w',hr,⟨⟨h0.1,Nat.le_trans h0.2 h4.size⟩,xs++news,⟨?_,?_⟩,by simp [hlen,hln],fun i a b=>?_⟩,h4,h6⟩
 ·rw [mcs_app,List.length_append,hln];exact h3
 ·intro p hp
  rcases List.mem_append.1 hp with hp | hp
  ·exact hvb.2 p hp
  ·exact h5 p hp
 ·by_cases hil:i<l.length
  ·rw [List.getElem_append_left hil,List.getElem_append_left (by omega)]
   obtain ⟨e1,e2,e3⟩:=hin i (by omega) hil
   exact ⟨e1,e2,e3.map (fun _ h=>h) hC⟩
  ·rw [List.getElem_append_right (by omega),List.getElem_append_right (by omega)]
   have e:i - xs.length=i - l.length:=by omega
   simp only [e]
   obtain ⟨e1,e2,e3⟩:=hu (i - l.length) (by simp at a;omega) (by simp at b;omega)
   exact ⟨e1,e2,e3.map (fun _ h=>h) hC⟩
theorem MgS.other {w:World} {S:Nat→Prop} {K:Nat} {v:Value} {l:List (List UInt8 × JV)} (h:MgS w S K v l) {a:Addr} (hv:v.ownBlock≠some a.block) (hZ:∀ b,S b→b≠a.block) (u:Value):MgS (w.setCell a u) S K v l:=by
 obtain ⟨h0,xs,h1,h2,h3⟩:=h
 refine ⟨⟨h0.1,by simpa [World.setCell] using h0.2⟩,xs,⟨ownsRow_setCell_other h1.1 hv u,h1.2⟩,h2,fun i a1 b1=>⟨(h3 i a1 b1).1,(h3 i a1 b1).2.1,(h3 i a1 b1).2.2.map (fun _ h=>h) (fun b o hb=>?_)⟩⟩
 unfold World.cell?
 rw [Below.heap_setCell _ _ _ _ (hZ b hb)]
def NeS (S:Nat→Prop) (w w':World):Nat→Prop:=fun b=>S b∨(w.heap.size≤b∧b<w'.heap.size)
theorem ltS {w W:World} {S:Nat→Prop} (h:∀ b,S b→b<w.heap.size) (hf:Fr w W):∀ b,S b→b<W.heap.size:=fun b hb=>Nat.lt_of_lt_of_le (h b hb) hf.size
theorem MsC.keepS {w w':World} {S:Nat→Prop} {A:Option Addr} {m:List (List UInt8 × JV)} (h:MsC w S A m) (hS:∀ b,S b→b<w.heap.size) (hf:Fr w w'):MsC w' S A m:=h.map (fun _ h=>h) (fun b o hb=>hf.cell (hS b hb))
theorem run_mG {w:World} (ty:TypeId) (S:Nat→Prop) (K:Nat) (v:Value) (l:List (List UInt8 × JV)) (hown:MgS w S K v l) (A:Option Addr) (c:Nat) (us:List (List UInt8 × JV)) (hA:MsC w S A us) (h63:(l.length+us.length)*96≤140737488355328):
  ∃ v' w',(Builtin.append_ #[23,23] ty #[v,.slice A us.length c]).run Tryz.prog w=.ok v' w'∧MgS w' S K v' (l++us)∧w.grownBy w' v.ownBlock∧(v'.ownBlock=v.ownBlock∨v'.ownBlock=some w.heap.size):=by
 by_cases hne:us=[]
 ·subst hne
  cases A with
  | none=>
   obtain ⟨h0,xs,hvb,hlen,hin⟩:=id hown
   obtain ⟨i,hi,_⟩:=info_parts mb_info
   exact ⟨v,w,run_append_owned_empty K _ ty _ i 6 Tryz.underlying23 hi v _ (mcs xs) hvb.1 c,by rw [List.append_nil];exact hown,⟨rfl,rfl,rfl,Nat.le_refl _,fun _ _ _=>rfl⟩,.inl rfl⟩
  | some ad=>exact run_mSk ty S K v l hown ad c [] [] rfl (by simp) (fun i h=>absurd h (by simp)) (fun j u hu=>by simp [mcs] at hu) h63
 ·obtain ⟨b,o,B,d,B',d',he,_⟩:=hA 0 (by cases us with | nil=>exact absurd rfl hne | cons _ _=>simp)
  subst he
  obtain ⟨news,hln,h5,hu,hcells⟩:=hA.row
  refine run_mSk ty S K v l hown ⟨b,o,none⟩ c us news hln h5 hu (fun j u hu=>?_) h63
  rw [show (Addr.mk b o none).add j=⟨b,o+j,none⟩ by
   by_cases h0:j=0
   ·subst h0;simp [Addr.add]
   ·simp [Addr.add,h0]]
  exact hcells j u hu
theorem wpl_mG {ops:Array Oper} {rest:List Oper} {o:Oper} {a:Act} {w:World} {Q:Exit→Act→World→Prop}
  (hgd:o.guard=none) (s x:Operand) (ho:o.op=.call { callee:=.builtin .append,args:=#[s,x],argTypes:=#[23,23] })
  (S:Nat→Prop) (K:Nat) (v:Value) (l:List (List UInt8 × JV)) (hs:a.eval s=v) (hown:MgS w S K v l) (A:Option Addr) (c n:Nat) (us:List (List UInt8 × JV)) (hx:a.eval x=.slice A n c) (hn:n=us.length) (hA:MsC w S A us) (h63:(l.length+us.length)*96≤140737488355328)
  (h:∀ v' w',MgS w' S K v' (l++us)→w.grownBy w' v.ownBlock→(v'.ownBlock=v.ownBlock∨v'.ownBlock=some w.heap.size)→wpList Tryz.prog ops Q rest (a.put o.dst v') w'):
  wpList Tryz.prog ops Q (o::rest) a w:=by
 subst hn
 refine wpList_plain hgd fun K2 hK=>?_
 obtain ⟨v',w',hr,h3,h4,h6⟩:=run_mG (w:=w) o.type S K v l hown A c us hA h63
 unfold Oper.wp execOp
 simp only [ho,resolve,invoke,builtin,Sem.run_bind,Sem.run_pure,Result.andThen_ok,List.map_toArray,List.map_cons,List.map_nil,hs,hx,hr]
 exact hK _ _ (h v' w' h3 h4 (by simpa using h6))
theorem wpl_mG_lit {ops:Array Oper} {rest:List Oper} {o:Oper} {a:Act} {w:World} {Q:Exit→Act→World→Prop} {cs:Array Value} {ad:Addr}
  (hgd:o.guard=none) (s x:Operand) (ho:o.op=.call { callee:=.builtin .append,args:=#[s,x],argTypes:=#[23,23] })
  (S:Nat→Prop) (K:Nat) (v:Value) (l:List (List UInt8 × JV)) (hs:a.eval s=v) (hown:MgS w S K v l) (nm:List UInt8) (u:JV) (C:Option Addr) (f:Nat) (C':Option Addr) (f':Nat) (hcs:cs=#[.string ⟨nm.toArray⟩,.int .i64 u.kd,.int .i64 u.nm,.string ⟨u.tx.toArray⟩,.slice C u.ls.length f,.slice C' u.ms.length f']) (hnm:nm.length≤140737488355328) (hu:InV w S u (vA u C f C' f')) (hx:a.eval x=.slice (some ad) 1 1) (had:ad=⟨w.heap.size,0,none⟩) (h63:(l.length+1)*96≤140737488355328)
  (h:∀ v' w',MgS w' S K v' (l++[(nm,u)])→(w.alloc (.cells cs 38)).grownBy w' v.ownBlock→(v'.ownBlock=v.ownBlock∨v'.ownBlock=some (w.heap.size+1))→wpList Tryz.prog ops Q rest (a.put o.dst v') w'):
  wpList Tryz.prog ops Q (o::rest) a (w.alloc (.cells cs 38)):=by
 subst had
 have hal:=(Fr.refl w).alloc (.cells cs 38)
 have h0:=hown.1
 refine wpList_plain hgd fun K2 hK=>?_
 have hb:=Blk.made w cs 38
 obtain ⟨v',w',hr,h3,h4,h6⟩:=run_mSk (w:=w.alloc (.cells cs 38)) o.type S K v l (hown.keep hal) ⟨w.heap.size,0,none⟩ 1 [(nm,u)] [(nm,vA u C f C' f')] rfl (fun p hp=>by simp at hp;subst hp;exact five_vA _ _ _ _ _)
  (fun i h1 h2=>by
   obtain rfl:i=0:=by simp at h1;omega
   exact ⟨rfl,hnm,hu.map (fun _ h=>h) (fun b o hb=>hal.cell (Nat.lt_of_lt_of_le (h0.1 b hb) h0.2))⟩)
  (fun j y hy=>by
   have e:mcs [(nm,vA u C f C' f')]=cs.toList:=by subst hcs;simp [mcs,vA,Value.cells]
   rw [e] at hy
   have hj:(Addr.mk w.heap.size 0 none).add j=⟨w.heap.size,j,none⟩:=by
    by_cases h0:j=0
    ·subst h0;simp [Addr.add]
    ·simp [Addr.add,h0]
   rw [hj,hb.cell j]
   simpa using hy) h63
 unfold Oper.wp execOp
 simp only [ho,resolve,invoke,builtin,Sem.run_bind,Sem.run_pure,Result.andThen_ok,List.map_toArray,List.map_cons,List.map_nil,hs,hx,List.length_singleton] at hr ⊢
 simp only [hr]
 exact hK _ _ (h v' w' h3 h4 (by simpa using h6))
theorem msg_fr {w a b:World} {S:Nat→Prop} {K:Nat} {v:Value} {l:List (List UInt8 × JV)} (hf:Fr w a) (hv:MgS a S K v l) (hK:w.heap.size≤K) (hg:a.grownBy b v.ownBlock):Fr w b:=
 Below.grown hf hg hf.size (fun k hk=>by have:=(hv.own_lt hk).1;omega)
theorem MgS.empty (w:World) {S:Nat→Prop} (hZ:∀ b,S b→b<w.heap.size):MgS (w.alloc (.cells #[] 38)) S w.heap.size (.slice (some ⟨w.heap.size,0,none⟩) 0 0) []:=
 ⟨⟨hZ,by simp⟩,[],⟨World.ownsRow_lit (base:=w.heap.size) (size:=6) (e:=38) w #[] 0 (Nat.le_refl _) (by unfold maxLen;omega) (by simp),by simp⟩,rfl,fun i h=>absurd h (by simp)⟩

theorem cloneS_is (m:List (List UInt8 × JV)) (A:Option Addr) (c:Nat) (w:World) (S:Nat→Prop) (hZ:∀ b,S b→b<w.heap.size) (h:MsC w S A m) (hl:m.length*96≤140737488355328):
  Calls Tryz.prog 35 #[.slice A m.length c] w fun e w'=>∃ v',e=.returned v'∧MgS w' S w.heap.size v' m∧Fr w w':=by
 have HM:=Lib.hid h
 have hl':(m.length:Int)≤140737488355328:=by omega
 cases A with
 | none=>
  have hm:m=[]:=by
   cases m with
   | nil=>rfl
   | cons p m=>obtain ⟨_,_,_,_,_,_,he,_⟩:=h 0 (by simp);cases he
  subst hm
  have hq:=fun W=>Lib.run_eql_slice_nil (P:=Tryz.prog) W 23 38 none 0 c 0 0 Tryz.underlying23
  clear h
  go_enter Tryz.func35,Tryz.ntmps35
  go_wp2_with fail
  go_ret
  exact ⟨_,rfl,MgS.none_ w ⟨hZ,Nat.le_refl _⟩,Fr.refl w⟩
 | some ad=>
  have hk:(0+m.length)*96≤140737488355328:=by omega
  have HE:Hid (MgS (w.alloc (.cells #[] 38)) S w.heap.size (.slice (some ⟨w.heap.size,0,none⟩) 0 0) []):=MgS.empty w hZ
  have HC:Hid (MsC (w.alloc (.cells #[] 38)) S (some ad) m):=h.keepS hZ ((Fr.refl w).alloc _)
  have hq:=fun W=>Lib.run_eql_slice_nil (P:=Tryz.prog) W 23 38 (some ad) m.length c 0 0 Tryz.underlying23
  clear h
  go_enter Tryz.func35,Tryz.ntmps35
  go_wp2_with (at_builtin;refine wpl_mG rfl (.tmp 5) (.tmp 6) rfl S w.heap.size _ [] rfl HE.out (some ad) c m.length m rfl rfl HC.out (by simpa using hk) ?_;intro v4 w4 hv4 hg4 _;have hv4:MgS w4 S w.heap.size v4 m:=hv4;obtain ⟨a4,c4,rfl⟩:=hv4.is_slice;have HF4:=Lib.hid (msg_fr ((Fr.refl w).alloc _) HE.out (Nat.le_refl _) hg4);have HV4:=Lib.hid hv4;clear hv4 hg4)
  go_ret
  exact ⟨_,rfl,HV4.out,HF4.out⟩

theorem tmembersS_is (v:JV) (B:Option Addr) (d:Nat) (B':Option Addr) (d':Nat) (w:World) (S:Nat→Prop) (hZ:∀ b,S b→b<w.heap.size) (h:InV w S v (vA v B d B' d')) (hl:v.ms.length*96≤140737488355328):
  Calls Tryz.prog 70 #[.agg #[.int .i64 v.kd,.int .i64 v.nm,.string ⟨v.tx.toArray⟩,.slice B v.ls.length d,.slice B' v.ms.length d']] w fun e w'=>∃ v' K,e=.returned v'∧w.heap.size≤K∧MgS w' S K v' (if v.kd=6 then v.ms else [])∧Fr w w':=by
 obtain ⟨A,c,A',c',he,_,hms⟩:=h.open_
 have hA:B'=A':=by obtain ⟨_,_,_,_,e4⟩:=five he;injection e4
 subst hA
 have HC:Hid (∀ W,Fr w W→Calls Tryz.prog 35 #[.slice B' v.ms.length d'] W fun e w'=>∃ v',e=.returned v'∧MgS w' S W.heap.size v' v.ms∧Fr W w'):=Lib.hid (fun W hW=>cloneS_is v.ms B' d' W S (ltS hZ hW) (hms.keepS hZ hW) hl)
 have HF0:Hid (Fr w (w.alloc (.cells #[.int .i64 v.kd,.int .i64 v.nm,.string ⟨v.tx.toArray⟩,.slice B v.ls.length d,.slice B' v.ms.length d'] 25))):=(Fr.refl w).alloc _
 clear h he hms
 by_cases h6:v.kd=6
 ·have q6:(v.kd != 6)=false:=by rw [bne_eq_false_iff_eq];exact h6
  rw [if_pos h6]
  clear h6
  go_enter Tryz.func70,Tryz.ntmps70
  go_wp2_with (go_at_call 35;refine (HC.out _ HF0.out).mono ?_;rintro e w1 ⟨v1,rfl,hv1,hf⟩;obtain ⟨a1,c1,rfl⟩:=hv1.is_slice;have HV1:=Lib.hid hv1;have HF1:=Lib.hid hf;clear hv1 hf)
  go_ret
  exact ⟨_,_,rfl,Nat.le_succ_of_le (Nat.le_refl _),by simpa using HV1.out,HF0.out.trans HF1.out⟩
 ·obtain ⟨_,q6⟩:=ikind h6
  rw [if_neg h6]
  clear h6
  go_enter Tryz.func70,Tryz.ntmps70
  go_wp2_with fail
  go_ret
  exact ⟨_,w.heap.size,rfl,Nat.le_refl _,MgS.none_ _ ⟨hZ,by simp⟩,HF0.out⟩

theorem withS_new (v x:JV) (B:Option Addr) (d:Nat) (B':Option Addr) (d':Nat) (C:Option Addr) (f:Nat) (C':Option Addr) (f':Nat) (s:List UInt8) (w:World) (S:Nat→Prop) (hZ:∀ b,S b→b<w.heap.size) (hv:InV w S v (vA v B d B' d')) (hx:InV w S x (vA x C f C' f')) (hl:v.ms.length*96≤140737488300000) (hs:s.length≤140737488355328) (hp:Pt.placeI v s = -1):
  Calls Tryz.prog 53 #[.agg #[.int .i64 v.kd,.int .i64 v.nm,.string ⟨v.tx.toArray⟩,.slice B v.ls.length d,.slice B' v.ms.length d'],.string ⟨s.toArray⟩,.agg #[.int .i64 x.kd,.int .i64 x.nm,.string ⟨x.tx.toArray⟩,.slice C x.ls.length f,.slice C' x.ms.length f']] w fun e w'=>∃ (D:Option Addr) (g:Nat),e=.returned (.agg #[.int .i64 6,.int .i64 0,.string ⟨#[]⟩,.slice none 0 0,.slice D ((if v.kd=6 then v.ms else [])++[(s,x)]).length g])∧InV w' (NeS S w w') (JV.mapV ((if v.kd=6 then v.ms else [])++[(s,x)])) (.agg #[.int .i64 6,.int .i64 0,.string ⟨#[]⟩,.slice none 0 0,.slice D ((if v.kd=6 then v.ms else [])++[(s,x)]).length g])∧Fr w w':=by
 obtain ⟨mm,hmm⟩:∃ mm,(if v.kd=6 then v.ms else [])=mm:=⟨_,rfl⟩
 have hml:mm.length*96≤140737488300000:=by
  rw [← hmm]
  split
  all_goals first | exact hl | (simp;done) | omega
 have HME:Hid (∀ W,Fr w W→Calls Tryz.prog 70 #[.agg #[.int .i64 v.kd,.int .i64 v.nm,.string ⟨v.tx.toArray⟩,.slice B v.ls.length d,.slice B' v.ms.length d']] W fun e w'=>∃ v' K,e=.returned v'∧W.heap.size≤K∧MgS w' S K v' mm∧Fr W w'):=Lib.hid (fun W hW=>by rw [← hmm];exact tmembersS_is v B d B' d' W S (ltS hZ hW) (hv.keepS hZ hW) (by omega))
 have HPL:Hid (∀ W,Fr w W→Calls Tryz.prog 69 #[.agg #[.int .i64 v.kd,.int .i64 v.nm,.string ⟨v.tx.toArray⟩,.slice B v.ls.length d,.slice B' v.ms.length d'],.string ⟨s.toArray⟩] W fun e w'=>e=.returned (.int .i64 (Pt.placeI v s))∧Fr W w'):=Lib.hid (fun W hW=>place_is v B d B' d' s W ((hv.keepS hZ hW).more (ltS hZ hW)))
 have hF3:Fr w (((w.alloc (.cells #[.int .i64 v.kd,.int .i64 v.nm,.string ⟨v.tx.toArray⟩,.slice B v.ls.length d,.slice B' v.ms.length d'] 25)).alloc (.cells #[.int .i64 x.kd,.int .i64 x.nm,.string ⟨x.tx.toArray⟩,.slice C x.ls.length f,.slice C' x.ms.length f'] 25)).alloc (.cells #[.int .i64 0,.int .i64 0,.string ⟨#[]⟩,.slice none 0 0,.slice none 0 0] 25)):=(((Fr.refl w).alloc _).alloc _).alloc _
 have hB3:Blk (((w.alloc (.cells #[.int .i64 v.kd,.int .i64 v.nm,.string ⟨v.tx.toArray⟩,.slice B v.ls.length d,.slice B' v.ms.length d'] 25)).alloc (.cells #[.int .i64 x.kd,.int .i64 x.nm,.string ⟨x.tx.toArray⟩,.slice C x.ls.length f,.slice C' x.ms.length f'] 25)).alloc (.cells #[.int .i64 0,.int .i64 0,.string ⟨#[]⟩,.slice none 0 0,.slice none 0 0] 25)) w.heap.size #[.int .i64 v.kd,.int .i64 v.nm,.string ⟨v.tx.toArray⟩,.slice B v.ls.length d,.slice B' v.ms.length d'] 25:=((Blk.made w _ _).keep ((Fr.refl _).alloc _)).keep ((Fr.refl _).alloc _)
 have hX3:Blk (((w.alloc (.cells #[.int .i64 v.kd,.int .i64 v.nm,.string ⟨v.tx.toArray⟩,.slice B v.ls.length d,.slice B' v.ms.length d'] 25)).alloc (.cells #[.int .i64 x.kd,.int .i64 x.nm,.string ⟨x.tx.toArray⟩,.slice C x.ls.length f,.slice C' x.ms.length f'] 25)).alloc (.cells #[.int .i64 0,.int .i64 0,.string ⟨#[]⟩,.slice none 0 0,.slice none 0 0] 25)) (w.heap.size+1) #[.int .i64 x.kd,.int .i64 x.nm,.string ⟨x.tx.toArray⟩,.slice C x.ls.length f,.slice C' x.ms.length f'] 25:=(boxz (Blk.made (w.alloc _) _ _)).keep ((Fr.refl _).alloc _)
 have hZ3:Blk (((w.alloc (.cells #[.int .i64 v.kd,.int .i64 v.nm,.string ⟨v.tx.toArray⟩,.slice B v.ls.length d,.slice B' v.ms.length d'] 25)).alloc (.cells #[.int .i64 x.kd,.int .i64 x.nm,.string ⟨x.tx.toArray⟩,.slice C x.ls.length f,.slice C' x.ms.length f'] 25)).alloc (.cells #[.int .i64 0,.int .i64 0,.string ⟨#[]⟩,.slice none 0 0,.slice none 0 0] 25)) (w.heap.size+1+1) #[.int .i64 0,.int .i64 0,.string ⟨#[]⟩,.slice none 0 0,.slice none 0 0] 25:=boxy (Blk.made ((w.alloc _).alloc _) _ _)
 have HV:=Lib.hid hv
 have HX:=Lib.hid hx
 rw [hmm]
 have HPI:=Lib.hid hp
 have hk97:(mm.length+1)*96≤140737488355328:=by omega
 have hm63:(mm.length:Int)≤140737488355328:=by omega
 clear hv hx hp hmm
 go_enter Tryz.func53,Tryz.ntmps53
 go_upto_region 1 with fail
 generalize (((w.alloc (.cells #[.int .i64 v.kd,.int .i64 v.nm,.string ⟨v.tx.toArray⟩,.slice B v.ls.length d,.slice B' v.ms.length d'] 25)).alloc (.cells #[.int .i64 x.kd,.int .i64 x.nm,.string ⟨x.tx.toArray⟩,.slice C x.ls.length f,.slice C' x.ms.length f'] 25)).alloc (.cells #[.int .i64 0,.int .i64 0,.string ⟨#[]⟩,.slice none 0 0,.slice none 0 0] 25))=W0 at hF3 hB3 hX3 hZ3 ⊢
 have HF3:=Lib.hid hF3
 have HB3:=Lib.hid hB3
 have HX3:=Lib.hid hX3
 have HZ3:=Lib.hid hZ3
 have hz1:w.heap.size+1+1<W0.heap.size:=hZ3.lt
 obtain ⟨⟨a0,a1,a2,a3,a4⟩,_⟩:=box5 hB3
 clear hF3 hB3 hX3 hZ3
 go_upto_region 2 with (go_at_call 70;refine (HME.out _ HF3.out).mono ?_;rintro e w1 ⟨v1,K,rfl,hK,hv1,hf⟩;obtain ⟨sa,sc,rfl⟩:=hv1.is_slice;have HV1:=Lib.hid hv1;have HF1:=Lib.hid hf;clear hv1 hf)
 have hw5:=HF1.out.alloc (.cells #[.int .i64 6,.int .i64 0,.string ⟨#[]⟩,.slice none 0 0,(.slice sa mm.length sc)] 25)
 have hb5:=Blk.made w1 #[.int .i64 6,.int .i64 0,.string ⟨#[]⟩,.slice none 0 0,(.slice sa mm.length sc)] 25
 have hv5:=HV1.out.keep ((Fr.refl w1).alloc (.cells #[.int .i64 6,.int .i64 0,.string ⟨#[]⟩,.slice none 0 0,(.slice sa mm.length sc)] 25))
 have hk1:=HV1.out.1
 have hx7:w1.heap.size<(w1.alloc (.cells #[.int .i64 6,.int .i64 0,.string ⟨#[]⟩,.slice none 0 0,(.slice sa mm.length sc)] 25)).heap.size:=by simp
 have hf1:=HF1.out.size
 generalize (w1.alloc (.cells #[.int .i64 6,.int .i64 0,.string ⟨#[]⟩,.slice none 0 0,(.slice sa mm.length sc)] 25))=W5 at hw5 hb5 hv5 hx7 ⊢
 have hown7:(Value.slice sa mm.length sc).ownBlock≠some w1.heap.size:=fun e=>by have:=(HV1.out.own_lt e).2;omega
 generalize w1.heap.size=X7 at hb5 hx7 hk1 hf1 hown7 ⊢
 have HF5:=Lib.hid hw5
 have HB5:=Lib.hid hb5
 have HV5:=Lib.hid hv5
 obtain ⟨⟨c0,c1,c2,c3,c4⟩,_⟩:=box5 (HB3.out.keep hw5)
 clear hw5 hb5 hv5 a0 a1 a2 a3 a4
 go_wp2_with (first
  | (at_builtin;have hX7:InV w2 S x (vA x C f C' f'):=HX.out.keepS hZ (HF3.out.trans HF7.out);refine wpl_mG_lit rfl (.tmp 25) (.tmp 29) rfl S K _ mm rfl HV7.out s x C f C' f' rfl hs hX7 rfl (by simp) hk97 ?_;intro v4 w4 hv4 hg4 ho4;obtain ⟨b4,k4,rfl⟩:=hv4.is_slice2 (n:=1) rfl;have HV4:=Lib.hid hv4;have HG4:=Lib.hid hg4;have HO4:=Lib.hid ho4;have HS4:=Lib.hid hg4.size;have hy4:Blk w4 X7 _ _:=(hg4.block _ (HB7.out.keep ((Fr.refl _).alloc _)).lt (fun e=>hown7 e.symm)).trans (HB7.out.keep ((Fr.refl _).alloc _));obtain ⟨⟨zz0,zz1,zz2,zz3,zz4⟩,zg0,zg1,zg2,zg3,zg4⟩:=box5 hy4;have HY4:=Lib.hid hy4;have hfr4:Fr W0 w4:=msg_fr (HF7.out.alloc _) (HV7.out.keep ((Fr.refl _).alloc _)) hK hg4;have hz4:=HZ3.out.keep hfr4;obtain ⟨⟨t0,t1,t2,t3,t4⟩,tf0,tf1,tf2,tf3,tf4⟩:=box5 hz4;have HZ4:=Lib.hid hz4;have HFR4:=Lib.hid hfr4;clear hv4 hg4 hX7 hy4 hz4 hfr4 ho4)
  | (go_at_call 69;refine (HPL.out _ (HF3.out.trans HF5.out)).mono ?_;rw [HPI.out];rintro e w2 ⟨rfl,hf⟩;have hb7:=HB5.out.keep hf;obtain ⟨⟨p0,p1,p2,p3,p4⟩,f0,f1,f2,f3,f4⟩:=box5 hb7;have HB7:=Lib.hid hb7;obtain ⟨⟨x0,x1,x2,x3,x4⟩,_⟩:=box5 (HX3.out.keep (HF5.out.trans hf));have hzz:=HZ3.out.keep (HF5.out.trans hf);obtain ⟨⟨z0,z1,z2,z3,z4⟩,g0,g1,g2,g3,g4⟩:=box5 hzz;have HZ7:=Lib.hid hzz;have HV7:=Lib.hid (HV5.out.keep hf);have HF7:=Lib.hid (HF5.out.trans hf);clear hb7 hzz hf))
 have hX72:X7<w2.heap.size:=HB7.out.lt
 have hz72:w.heap.size+1+1<w2.heap.size:=HZ7.out.lt
 have hon4:∀ k,k=X7∨k=w.heap.size+1+1→(Value.slice b4 (mm.length+1) k4).ownBlock≠some k:=fun k hk e=>by
  rcases HO4.out with h6 | h6
  ·rw [h6] at e
   rcases hk with rfl | rfl
   ·exact hown7 e
   ·have:=(HV7.out.own_lt e).1;have:=hK;omega
  ·rw [h6] at e
   have:=Option.some.inj e
   omega
 have hm1:=HV4.out.other (a:=⟨X7,4,none⟩) (hon4 _ (.inl rfl)) (fun b hb=>by have:=HV7.out.1.1 b hb;have:=hk1.2;show b≠X7;omega) (.slice b4 (mm.length+1) k4)
 have hR:∀ j,(Value.slice b4 (mm.length+1) k4).ownBlock≠some (Addr.mk (w.heap.size+1+1) j none).block:=fun j=>hon4 _ (.inr rfl)
 have hZR:∀ j b,S b→b≠(Addr.mk (w.heap.size+1+1) j none).block:=fun j b hb=>by have:=hZ b hb;show b≠w.heap.size+1+1;omega
 have hm2:=((((hm1.other (hR 0) (hZR 0) (.int .i64 6)).other (hR 1) (hZR 1) (.int .i64 0)).other (hR 2) (hZR 2) (.string ⟨#[]⟩)).other (hR 3) (hZR 3) (.slice none 0 0)).other (hR 4) (hZR 4) (.slice b4 (mm.length+1) k4)
 have hfin:=(HF3.out.trans (HFR4.out.setCell (p:=⟨X7,4,none⟩) (by show W0.heap.size≤X7;have:=hf1;omega) (.slice b4 (mm.length+1) k4))).put5 (X:=w.heap.size+1+1) (by omega) (.int .i64 6) (.int .i64 0) (.string ⟨#[]⟩) (.slice none 0 0) (.slice b4 (mm.length+1) k4)
 refine bodyPost_ret (results_cv (by rfl) rfl _ (w.heap.size+1+1) (by rfl) _ _ _ _ _ (set5 (HZ4.out.other (by show X7≠w.heap.size+1+1;have:=hf1;have:=hz1;omega) _))) rfl ?_
 have hlen:(mm++[(s,x)]).length=mm.length+1:=by simp
 refine ⟨b4,k4,by rw [hlen],?_,hfin⟩
 rw [hlen]
 exact (hm2.inV (by rw [hlen];omega)).more (fun b hb=>by
  rcases hb with hb | hb
  ·exact .inl hb
  ·exact .inr ⟨by have:=HF3.out.size;omega,hb.2⟩)
theorem MgS.open_ {w:World} {S:Nat→Prop} {K n c:Nat} {A:Option Addr} {m:List (List UInt8 × JV)} (h:MgS w S K (.slice A n c) m) {i:Nat} (hi:i<m.length):
  ∃ g,A=some ⟨g,0,none⟩∧K≤g∧g<w.heap.size∧(∀ k,k<m.length → ∀ j,j<6 → ∃ u,w.cell? ⟨g,k*6+j,none⟩=some u) ∧ ∀ o,w.frozen? ⟨g,o,none⟩=false:=by
 obtain ⟨_,xs,hvb,hlen,_⟩:=h
 rcases hvb.1.2 with ⟨_,hn⟩ | ⟨g,cap,cur,hv,hb,hg,hc,hm,hs,ht⟩
 ·exfalso;omega
 ·injection hv with hA _ _
  refine ⟨g,hA,hb,(Array.getElem?_eq_some_iff.1 hg).1,fun k hk j hj=>?_,fun o=>by simp [World.frozen?,hg]⟩
  have hx:k<xs.length:=by omega
  obtain ⟨a,b,d,e,f,h5,_⟩:=hvb.2 _ (List.getElem_mem hx)
  have hlt:j<(Value.string ⟨xs[k].1.toArray⟩::xs[k].2.cells.toList).length:=by rw [h5];simp [Value.cells];omega
  obtain ⟨u,hu⟩:∃ u,(Value.string ⟨xs[k].1.toArray⟩::xs[k].2.cells.toList)[j]? = some u:=⟨_,List.getElem?_eq_getElem hlt⟩
  refine ⟨u,?_⟩
  have hm2:=mcs_at hvb.2 hx hj
  rw [hu] at hm2
  rw [cell_of_row w g _ cur _ (0,0) hg]
  rw [← ht,List.getElem?_take] at hm2
  split at hm2
  ·first | exact hm2 | (rw [Array.getElem?_toList] at hm2;exact hm2) | simpa using hm2
  ·cases hm2

theorem MgS.setInV {w:World} {S:Nat→Prop} {K g c:Nat} {m:List (List UInt8 × JV)} (h:MgS w S K (.slice (some ⟨g,0,none⟩) m.length c) m) {i:Nat} (hi:i<m.length) (h63:m.length≤140737488355328) {x:JV} {C:Option Addr} {f:Nat} {C':Option Addr} {f':Nat} (hx:InV w S x (vA x C f C' f')) (s:List UInt8) (hs:m[i].1=s):
  InV (((((w.setCell ⟨g,i*6+1,none⟩ (.int .i64 x.kd)).setCell ⟨g,i*6+1+1,none⟩ (.int .i64 x.nm)).setCell ⟨g,i*6+1+2,none⟩ (.string ⟨x.tx.toArray⟩)).setCell ⟨g,i*6+1+3,none⟩ (.slice C x.ls.length f)).setCell ⟨g,i*6+1+4,none⟩ (.slice C' x.ms.length f')) (fun b=>S b∨(K≤b∧b<w.heap.size)) (JV.mapV (m.set i (s,x))) (.agg #[.int .i64 6,.int .i64 0,.string ⟨#[]⟩,.slice none 0 0,.slice (some ⟨g,0,none⟩) (m.set i (s,x)).length c]):=by
 have hop:=h.open_ hi
 obtain ⟨h0,xs,hvb,hlen,hin⟩:=h
 obtain ⟨g1,hg1,hgK,hgl,hgc,_⟩:=hop
 have hgg:g1=g:=by injection hg1 with hg1;injection hg1 with e _ _;exact e.symm
 subst hgg
 have hcells:∀ j u,(mcs xs)[j]? = some u→w.cell? ⟨g1,j,none⟩=some u:=by
  rcases hvb.form with ⟨e,_⟩ | ⟨g',cap,e,_,_,hc⟩
  ·injection e with e _ _;cases e
  ·injection e with e _ _
   injection e with e
   injection e with e _ _
   rw [e];exact hc
 have hat:=put5g_at w g1 (i*6+1) (.int .i64 x.kd) (.int .i64 x.nm) (.string ⟨x.tx.toArray⟩) (.slice C x.ls.length f) (.slice C' x.ms.length f') (fun j hj=>by
  have:=hgc i hi (1+j) (by omega)
  rwa [show i*6+(1+j)=i*6+1+j by omega] at this)
 have hot:=put5g_other w g1 (i*6+1) (.int .i64 x.kd) (.int .i64 x.nm) (.string ⟨x.tx.toArray⟩) (.slice C x.ls.length f) (.slice C' x.ms.length f')
 generalize (((((w.setCell ⟨g1,i*6+1,none⟩ (.int .i64 x.kd)).setCell ⟨g1,i*6+1+1,none⟩ (.int .i64 x.nm)).setCell ⟨g1,i*6+1+2,none⟩ (.string ⟨x.tx.toArray⟩)).setCell ⟨g1,i*6+1+3,none⟩ (.slice C x.ls.length f)).setCell ⟨g1,i*6+1+4,none⟩ (.slice C' x.ms.length f'))=W at hat hot ⊢
 have hlow:∀ b o,S b→W.cell? ⟨b,o,none⟩=w.cell? ⟨b,o,none⟩:=fun b o hb=>hot _ (fun j _ e=>by
  injection e with e _ _
  have hb:=h0.1 b hb
  omega)
 have hsame:∀ k j,k≠i→j<6→W.cell? ⟨g1,0+k*6+j,none⟩=w.cell? ⟨g1,k*6+j,none⟩:=fun k j hk hj=>by
  rw [Nat.zero_add]
  exact hot _ (fun j' hj' e=>by injection e;omega)
 refine InV.ofMap (.inr ⟨hgK,hgl⟩) (by simpa using h63) (fun k hk=>?_)
 have hkm:k<m.length:=by simpa using hk
 have hkx:k<xs.length:=by omega
 obtain ⟨e1,e2,e3⟩:=hin k hkx hkm
 have hname:∀ k (hk:k<xs.length),w.cell? ⟨g1,k*6+0,none⟩=some (.string ⟨xs[k].1.toArray⟩):=fun k hk=>hcells _ _ (by rw [mcs_at hvb.2 hk (by omega)];rfl)
 by_cases hki:i=k
 ·subst hki
  rw [List.getElem_set_self]
  refine ⟨by show s.length≤_;rw [← hs];exact e2,.int .i64 x.kd,.int .i64 x.nm,.string ⟨x.tx.toArray⟩,.slice C x.ls.length f,.slice C' x.ms.length f',?_,?_,?_,?_,?_,?_,?_⟩
  ·rw [Nat.zero_add,hot _ (fun j' hj' e=>by injection e;omega)]
   have:=hname i hkx
   rw [e1,hs] at this
   exact this
  ·rw [Nat.zero_add];exact hat.1
  ·rw [Nat.zero_add];exact hat.2.1
  ·rw [Nat.zero_add];exact hat.2.2.1
  ·rw [Nat.zero_add];exact hat.2.2.2.1
  ·rw [Nat.zero_add];exact hat.2.2.2.2
  ·exact hx.map (fun b hb=>.inl hb) hlow
 ·rw [List.getElem_set_ne hki]
  obtain ⟨a,b,d,e,f,h5,_⟩:=hvb.2 _ (List.getElem_mem hkx)
  have hq:∀ j u,j<6→(Value.string ⟨xs[k].1.toArray⟩::xs[k].2.cells.toList)[j]? = some u→W.cell? ⟨g1,0+k*6+j,none⟩=some u:=fun j u hj hu=>by
   rw [hsame k j (fun e=>hki e.symm) hj]
   exact hcells _ _ (by rw [mcs_at hvb.2 hkx hj];exact hu)
  rw [h5] at hq e3
  refine ⟨e2,a,b,d,e,f,?_,hq 1 a (by omega) rfl,hq 2 b (by omega) rfl,hq 3 d (by omega) rfl,hq 4 e (by omega) rfl,hq 5 f (by omega) rfl,e3.map (fun b hb=>.inl hb) hlow⟩
  have:=hq 0 _ (by omega) rfl
  rw [e1] at this
  exact this

theorem withS_old (v x:JV) (B:Option Addr) (d:Nat) (B':Option Addr) (d':Nat) (C:Option Addr) (f:Nat) (C':Option Addr) (f':Nat) (s:List UInt8) (w:World) (S:Nat→Prop) (hZ:∀ b,S b→b<w.heap.size) (hv:InV w S v (vA v B d B' d')) (hx:InV w S x (vA x C f C' f')) (hl:v.ms.length*96≤140737488300000) (hs:s.length≤140737488355328) (i:Nat) (h6:v.kd=6) (hp:Pt.placeM v.ms s=some i):
  Calls Tryz.prog 53 #[.agg #[.int .i64 v.kd,.int .i64 v.nm,.string ⟨v.tx.toArray⟩,.slice B v.ls.length d,.slice B' v.ms.length d'],.string ⟨s.toArray⟩,.agg #[.int .i64 x.kd,.int .i64 x.nm,.string ⟨x.tx.toArray⟩,.slice C x.ls.length f,.slice C' x.ms.length f']] w fun e w'=>∃ (D:Option Addr) (g:Nat),e=.returned (.agg #[.int .i64 6,.int .i64 0,.string ⟨#[]⟩,.slice none 0 0,.slice D (v.ms.set i (s,x)).length g])∧InV w' (NeS S w w') (JV.mapV (v.ms.set i (s,x))) (.agg #[.int .i64 6,.int .i64 0,.string ⟨#[]⟩,.slice none 0 0,.slice D (v.ms.set i (s,x)).length g])∧Fr w w':=by
 have hpi:Pt.placeI v s=(i:Nat):=by unfold Pt.placeI;rw [if_pos h6,hp]
 obtain ⟨mm,hmm⟩:∃ mm,(if v.kd=6 then v.ms else [])=mm:=⟨_,rfl⟩
 have hml:mm.length*96≤140737488300000:=by
  rw [← hmm]
  split
  all_goals first | exact hl | (simp;done) | omega
 have HME:Hid (∀ W,Fr w W→Calls Tryz.prog 70 #[.agg #[.int .i64 v.kd,.int .i64 v.nm,.string ⟨v.tx.toArray⟩,.slice B v.ls.length d,.slice B' v.ms.length d']] W fun e w'=>∃ v' K,e=.returned v'∧W.heap.size≤K∧MgS w' S K v' mm∧Fr W w'):=Lib.hid (fun W hW=>by rw [← hmm];exact tmembersS_is v B d B' d' W S (ltS hZ hW) (hv.keepS hZ hW) (by omega))
 have HPL:Hid (∀ W,Fr w W→Calls Tryz.prog 69 #[.agg #[.int .i64 v.kd,.int .i64 v.nm,.string ⟨v.tx.toArray⟩,.slice B v.ls.length d,.slice B' v.ms.length d'],.string ⟨s.toArray⟩] W fun e w'=>e=.returned (.int .i64 (Pt.placeI v s))∧Fr W w'):=Lib.hid (fun W hW=>place_is v B d B' d' s W ((hv.keepS hZ hW).more (ltS hZ hW)))
 have hF3:Fr w (((w.alloc (.cells #[.int .i64 v.kd,.int .i64 v.nm,.string ⟨v.tx.toArray⟩,.slice B v.ls.length d,.slice B' v.ms.length d'] 25)).alloc (.cells #[.int .i64 x.kd,.int .i64 x.nm,.string ⟨x.tx.toArray⟩,.slice C x.ls.length f,.slice C' x.ms.length f'] 25)).alloc (.cells #[.int .i64 0,.int .i64 0,.string ⟨#[]⟩,.slice none 0 0,.slice none 0 0] 25)):=(((Fr.refl w).alloc _).alloc _).alloc _
 have hB3:Blk (((w.alloc (.cells #[.int .i64 v.kd,.int .i64 v.nm,.string ⟨v.tx.toArray⟩,.slice B v.ls.length d,.slice B' v.ms.length d'] 25)).alloc (.cells #[.int .i64 x.kd,.int .i64 x.nm,.string ⟨x.tx.toArray⟩,.slice C x.ls.length f,.slice C' x.ms.length f'] 25)).alloc (.cells #[.int .i64 0,.int .i64 0,.string ⟨#[]⟩,.slice none 0 0,.slice none 0 0] 25)) w.heap.size #[.int .i64 v.kd,.int .i64 v.nm,.string ⟨v.tx.toArray⟩,.slice B v.ls.length d,.slice B' v.ms.length d'] 25:=((Blk.made w _ _).keep ((Fr.refl _).alloc _)).keep ((Fr.refl _).alloc _)
 have hX3:Blk (((w.alloc (.cells #[.int .i64 v.kd,.int .i64 v.nm,.string ⟨v.tx.toArray⟩,.slice B v.ls.length d,.slice B' v.ms.length d'] 25)).alloc (.cells #[.int .i64 x.kd,.int .i64 x.nm,.string ⟨x.tx.toArray⟩,.slice C x.ls.length f,.slice C' x.ms.length f'] 25)).alloc (.cells #[.int .i64 0,.int .i64 0,.string ⟨#[]⟩,.slice none 0 0,.slice none 0 0] 25)) (w.heap.size+1) #[.int .i64 x.kd,.int .i64 x.nm,.string ⟨x.tx.toArray⟩,.slice C x.ls.length f,.slice C' x.ms.length f'] 25:=(boxz (Blk.made (w.alloc _) _ _)).keep ((Fr.refl _).alloc _)
 have hZ3:Blk (((w.alloc (.cells #[.int .i64 v.kd,.int .i64 v.nm,.string ⟨v.tx.toArray⟩,.slice B v.ls.length d,.slice B' v.ms.length d'] 25)).alloc (.cells #[.int .i64 x.kd,.int .i64 x.nm,.string ⟨x.tx.toArray⟩,.slice C x.ls.length f,.slice C' x.ms.length f'] 25)).alloc (.cells #[.int .i64 0,.int .i64 0,.string ⟨#[]⟩,.slice none 0 0,.slice none 0 0] 25)) (w.heap.size+1+1) #[.int .i64 0,.int .i64 0,.string ⟨#[]⟩,.slice none 0 0,.slice none 0 0] 25:=boxy (Blk.made ((w.alloc _).alloc _) _ _)
 have HV:=Lib.hid hv
 have HX:=Lib.hid hx
 have hmv:mm=v.ms:=by rw [← hmm,if_pos h6]
 have key:∀ mm',mm'=v.ms → ∃ hi:i<mm'.length,mm'[i].1=s:=by
  rintro _ rfl
  obtain ⟨hi,hname,_⟩:=Pt.withM_some x hp
  exact ⟨hi,hname⟩
 obtain ⟨hi,hname⟩:=key mm hmv
 have HMV:=Lib.hid hmv
 have HPI:=Lib.hid hpi
 have hi':(i:Int)<(mm.length:Int):=by omega
 have hi0:decide ((0:Int)≤(i:Int))=true:=decide_eq_true (by omega)
 have hm63:(mm.length:Int)≤140737488355328:=by omega
 have HNA:=Lib.hid hname
 clear hv hx hp hmm hpi hmv hname key h6
 go_enter Tryz.func53,Tryz.ntmps53
 go_upto_region 1 with fail
 generalize (((w.alloc (.cells #[.int .i64 v.kd,.int .i64 v.nm,.string ⟨v.tx.toArray⟩,.slice B v.ls.length d,.slice B' v.ms.length d'] 25)).alloc (.cells #[.int .i64 x.kd,.int .i64 x.nm,.string ⟨x.tx.toArray⟩,.slice C x.ls.length f,.slice C' x.ms.length f'] 25)).alloc (.cells #[.int .i64 0,.int .i64 0,.string ⟨#[]⟩,.slice none 0 0,.slice none 0 0] 25))=W0 at hF3 hB3 hX3 hZ3 ⊢
 have HF3:=Lib.hid hF3
 have HB3:=Lib.hid hB3
 have HX3:=Lib.hid hX3
 have HZ3:=Lib.hid hZ3
 have hz1:w.heap.size+1+1<W0.heap.size:=hZ3.lt
 obtain ⟨⟨a0,a1,a2,a3,a4⟩,_⟩:=box5 hB3
 clear hF3 hB3 hX3 hZ3
 go_upto_region 2 with (go_at_call 70;refine (HME.out _ HF3.out).mono ?_;rintro e w1 ⟨v1,K,rfl,hK,hv1,hf⟩;obtain ⟨sa,sc,rfl⟩:=hv1.is_slice;have HV1:=Lib.hid hv1;have HF1:=Lib.hid hf;clear hv1 hf)
 have hw5:=HF1.out.alloc (.cells #[.int .i64 6,.int .i64 0,.string ⟨#[]⟩,.slice none 0 0,(.slice sa mm.length sc)] 25)
 have hb5:=Blk.made w1 #[.int .i64 6,.int .i64 0,.string ⟨#[]⟩,.slice none 0 0,(.slice sa mm.length sc)] 25
 have hv5:=HV1.out.keep ((Fr.refl w1).alloc (.cells #[.int .i64 6,.int .i64 0,.string ⟨#[]⟩,.slice none 0 0,(.slice sa mm.length sc)] 25))
 have hk1:=HV1.out.1
 have hx7:w1.heap.size<(w1.alloc (.cells #[.int .i64 6,.int .i64 0,.string ⟨#[]⟩,.slice none 0 0,(.slice sa mm.length sc)] 25)).heap.size:=by simp
 have hf1:=HF1.out.size
 generalize (w1.alloc (.cells #[.int .i64 6,.int .i64 0,.string ⟨#[]⟩,.slice none 0 0,(.slice sa mm.length sc)] 25))=W5 at hw5 hb5 hv5 hx7 ⊢
 have hown7:(Value.slice sa mm.length sc).ownBlock≠some w1.heap.size:=fun e=>by have:=(HV1.out.own_lt e).2;omega
 generalize w1.heap.size=X7 at hb5 hx7 hk1 hf1 hown7 ⊢
 have HF5:=Lib.hid hw5
 have HB5:=Lib.hid hb5
 have HV5:=Lib.hid hv5
 obtain ⟨⟨c0,c1,c2,c3,c4⟩,_⟩:=box5 (HB3.out.keep hw5)
 clear hw5 hb5 hv5 a0 a1 a2 a3 a4
 obtain ⟨g,rfl,hgK,hgl,hgc,hgf⟩:=HV5.out.open_ hi
 clear hgc hgf
 go_upto_region 5 with (go_at_call 69;refine (HPL.out _ (HF3.out.trans HF5.out)).mono ?_;rw [HPI.out];rintro e w2 ⟨rfl,hf⟩;have hb7:=HB5.out.keep hf;obtain ⟨⟨p0,p1,p2,p3,p4⟩,f0,f1,f2,f3,f4⟩:=box5 hb7;have HB7:=Lib.hid hb7;obtain ⟨⟨x0,x1,x2,x3,x4⟩,_⟩:=box5 (HX3.out.keep (HF5.out.trans hf));have hzz:=HZ3.out.keep (HF5.out.trans hf);obtain ⟨⟨z0,z1,z2,z3,z4⟩,g0,g1,g2,g3,g4⟩:=box5 hzz;have HZ7:=Lib.hid hzz;have hv7:=HV5.out.keep hf;obtain ⟨g',hgg,hgK',hgl',hgc',hgf'⟩:=hv7.open_ hi;injection hgg with hgg;injection hgg with hgg _ _;subst hgg;obtain ⟨m1,hm1⟩:=hgc' i hi 1 (by omega);have hm1:w2.cell? ⟨g,i*6+1,none⟩=some m1:=hm1;have hmf1:=hgf' (i*6+1);obtain ⟨m2,hm2⟩:=hgc' i hi 2 (by omega);have hm2:w2.cell? ⟨g,i*6+1+1,none⟩=some m2:=hm2;have hmf2:=hgf' (i*6+1+1);obtain ⟨m3,hm3⟩:=hgc' i hi 3 (by omega);have hm3:w2.cell? ⟨g,i*6+1+2,none⟩=some m3:=hm3;have hmf3:=hgf' (i*6+1+2);obtain ⟨m4,hm4⟩:=hgc' i hi 4 (by omega);have hm4:w2.cell? ⟨g,i*6+1+3,none⟩=some m4:=hm4;have hmf4:=hgf' (i*6+1+3);obtain ⟨m5,hm5⟩:=hgc' i hi 5 (by omega);have hm5:w2.cell? ⟨g,i*6+1+4,none⟩=some m5:=hm5;have hmf5:=hgf' (i*6+1+4);clear hgc' hgf';have HV7:=Lib.hid hv7;have HF7:=Lib.hid (HF5.out.trans hf);have HGL:=Lib.hid hgl';clear hb7 hzz hf hv7)
 have hgX:g≠X7:=fun e=>hown7 (by rw [e];rfl)
 have hgR:g≠w.heap.size+1+1:=by have:=hgK;have:=hK;omega
 have hb9:Blk (((((w2.setCell ⟨g,i*6+1,none⟩ (.int .i64 x.kd)).setCell ⟨g,i*6+1+1,none⟩ (.int .i64 x.nm)).setCell ⟨g,i*6+1+2,none⟩ (.string ⟨x.tx.toArray⟩)).setCell ⟨g,i*6+1+3,none⟩ (.slice C x.ls.length f)).setCell ⟨g,i*6+1+4,none⟩ (.slice C' x.ms.length f')) X7 #[.int .i64 6,.int .i64 0,.string ⟨#[]⟩,.slice none 0 0,(.slice (some ⟨g,0,none⟩) mm.length sc)] 25:=((((HB7.out.other (show (Addr.mk g (i*6+1) none).block≠X7 from hgX) _).other (show (Addr.mk g (i*6+1+1) none).block≠X7 from hgX) _).other (show (Addr.mk g (i*6+1+2) none).block≠X7 from hgX) _).other (show (Addr.mk g (i*6+1+3) none).block≠X7 from hgX) _).other (show (Addr.mk g (i*6+1+4) none).block≠X7 from hgX) _
 have hz9:Blk (((((w2.setCell ⟨g,i*6+1,none⟩ (.int .i64 x.kd)).setCell ⟨g,i*6+1+1,none⟩ (.int .i64 x.nm)).setCell ⟨g,i*6+1+2,none⟩ (.string ⟨x.tx.toArray⟩)).setCell ⟨g,i*6+1+3,none⟩ (.slice C x.ls.length f)).setCell ⟨g,i*6+1+4,none⟩ (.slice C' x.ms.length f')) (w.heap.size+1+1) #[.int .i64 0,.int .i64 0,.string ⟨#[]⟩,.slice none 0 0,.slice none 0 0] 25:=((((HZ7.out.other (show (Addr.mk g (i*6+1) none).block≠_ from hgR) _).other (show (Addr.mk g (i*6+1+1) none).block≠_ from hgR) _).other (show (Addr.mk g (i*6+1+2) none).block≠_ from hgR) _).other (show (Addr.mk g (i*6+1+3) none).block≠_ from hgR) _).other (show (Addr.mk g (i*6+1+4) none).block≠_ from hgR) _
 have hgW:W0.heap.size≤g:=Nat.le_trans hK hgK
 have hf9:Fr W0 (((((w2.setCell ⟨g,i*6+1,none⟩ (.int .i64 x.kd)).setCell ⟨g,i*6+1+1,none⟩ (.int .i64 x.nm)).setCell ⟨g,i*6+1+2,none⟩ (.string ⟨x.tx.toArray⟩)).setCell ⟨g,i*6+1+3,none⟩ (.slice C x.ls.length f)).setCell ⟨g,i*6+1+4,none⟩ (.slice C' x.ms.length f')):=((((HF7.out.setCell (p:=⟨g,i*6+1,none⟩) hgW _).setCell (p:=⟨g,i*6+1+1,none⟩) hgW _).setCell (p:=⟨g,i*6+1+2,none⟩) hgW _).setCell (p:=⟨g,i*6+1+3,none⟩) hgW _).setCell (p:=⟨g,i*6+1+4,none⟩) hgW _
 have hin9:=HV7.out.setInV hi (by omega) (HX.out.keepS hZ (HF3.out.trans HF7.out)) s HNA.out
 have hs9:(((((w2.setCell ⟨g,i*6+1,none⟩ (.int .i64 x.kd)).setCell ⟨g,i*6+1+1,none⟩ (.int .i64 x.nm)).setCell ⟨g,i*6+1+2,none⟩ (.string ⟨x.tx.toArray⟩)).setCell ⟨g,i*6+1+3,none⟩ (.slice C x.ls.length f)).setCell ⟨g,i*6+1+4,none⟩ (.slice C' x.ms.length f')).heap.size=w2.heap.size:=by simp [World.setCell]
 rw [← hs9] at hin9
 generalize (((((w2.setCell ⟨g,i*6+1,none⟩ (.int .i64 x.kd)).setCell ⟨g,i*6+1+1,none⟩ (.int .i64 x.nm)).setCell ⟨g,i*6+1+2,none⟩ (.string ⟨x.tx.toArray⟩)).setCell ⟨g,i*6+1+3,none⟩ (.slice C x.ls.length f)).setCell ⟨g,i*6+1+4,none⟩ (.slice C' x.ms.length f'))=W9 at hb9 hz9 hf9 hin9 ⊢
 obtain ⟨⟨r0,r1,r2,r3,r4⟩,_⟩:=box5 hb9
 obtain ⟨⟨t0,t1,t2,t3,t4⟩,tf0,tf1,tf2,tf3,tf4⟩:=box5 hz9
 have HZ9:=Lib.hid hz9
 have HF9:=Lib.hid hf9
 have HIN9:=Lib.hid hin9
 clear hb9 hz9 hf9 hin9 hm1 hm2 hm3 hm4 hm5 hmf1 hmf2 hmf3 hmf4 hmf5 p0 p1 p2 p3 p4 x0 x1 x2 x3 x4 z0 z1 z2 z3 z4 hs9
 go_wp2_with fail
 refine bodyPost_ret (results_cv (by rfl) rfl _ (w.heap.size+1+1) (by rfl) _ _ _ _ _ (set5 HZ9.out)) rfl ?_
 have hlen:(mm.set i (s,x)).length=mm.length:=by simp
 have hfin:=(HF3.out.trans HF9.out).put5 (X:=w.heap.size+1+1) (by omega) (.int .i64 6) (.int .i64 0) (.string ⟨#[]⟩) (.slice none 0 0) (.slice (some ⟨g,0,none⟩) mm.length sc)
 rw [← HMV.out]
 refine ⟨some ⟨g,0,none⟩,sc,by rw [hlen],?_,hfin⟩
 refine HIN9.out.map (fun b hb=>?_) (fun b o hb=>?_)
 ·rcases hb with hb | hb
  ·exact .inl hb
  ·exact .inr ⟨by have:=HF3.out.size;omega,by simpa [World.setCell] using hb.2⟩
 ·have hne:b≠w.heap.size+1+1:=by
   rcases hb with hb | hb
   ·have:=hZ b hb;omega
   ·omega
  unfold World.cell?
  rw [Below.heap_setCell _ _ _ _ hne,Below.heap_setCell _ _ _ _ hne,Below.heap_setCell _ _ _ _ hne,Below.heap_setCell _ _ _ _ hne,Below.heap_setCell _ _ _ _ hne]

theorem twithS_is (v x:JV) (B:Option Addr) (d:Nat) (B':Option Addr) (d':Nat) (C:Option Addr) (f:Nat) (C':Option Addr) (f':Nat) (s:List UInt8) (w:World) (S:Nat→Prop) (hZ:∀ b,S b→b<w.heap.size) (hv:InV w S v (vA v B d B' d')) (hx:InV w S x (vA x C f C' f')) (hl:v.ms.length*96≤140737488300000) (hs:s.length≤140737488355328):
  Calls Tryz.prog 53 #[.agg #[.int .i64 v.kd,.int .i64 v.nm,.string ⟨v.tx.toArray⟩,.slice B v.ls.length d,.slice B' v.ms.length d'],.string ⟨s.toArray⟩,.agg #[.int .i64 x.kd,.int .i64 x.nm,.string ⟨x.tx.toArray⟩,.slice C x.ls.length f,.slice C' x.ms.length f']] w fun e w'=>∃ (D:Option Addr) (g:Nat),e=.returned (.agg #[.int .i64 6,.int .i64 0,.string ⟨#[]⟩,.slice none 0 0,.slice D (Pt.withM (if v.kd=6 then v.ms else []) s x).length g])∧InV w' (NeS S w w') (JV.mapV (Pt.withM (if v.kd=6 then v.ms else []) s x)) (.agg #[.int .i64 6,.int .i64 0,.string ⟨#[]⟩,.slice none 0 0,.slice D (Pt.withM (if v.kd=6 then v.ms else []) s x).length g])∧Fr w w':=by
 by_cases h6:v.kd=6
 ·cases hp:Pt.placeM v.ms s with
  | none=>
   have:=withS_new v x B d B' d' C f C' f' s w S hZ hv hx hl hs (by unfold Pt.placeI;rw [if_pos h6,hp])
   rw [if_pos h6] at this ⊢
   rw [Pt.withM_none x hp]
   exact this
  | some i=>
   have:=withS_old v x B d B' d' C f C' f' s w S hZ hv hx hl hs i h6 hp
   rw [if_pos h6]
   obtain ⟨_,_,e⟩:=Pt.withM_some x hp
   rw [e]
   exact this
 ·have:=withS_new v x B d B' d' C f C' f' s w S hZ hv hx hl hs (by unfold Pt.placeI;rw [if_neg h6])
  rw [if_neg h6] at this ⊢
  exact this
structure GS (S:Nat→Prop) (W0 wr:World) (v:Value) (acc:List (List UInt8 × JV)):Prop where
 vs:MgS wr S (W0.heap.size+1) v acc
 bx:Blk wr W0.heap.size #[.int .i64 6,.int .i64 0,.string ⟨#[]⟩,.slice none 0 0,v] 25
 fr:Fr W0 wr
theorem GS.keep {S:Nat→Prop} {W0 wr w':World} {v:Value} {acc:List (List UInt8 × JV)} (h:GS S W0 wr v acc) (hf:Fr wr w'):GS S W0 w' v acc:=⟨h.vs.keep hf,h.bx.keep hf,h.fr.trans hf⟩
theorem GS.app {S:Nat→Prop} {W0 w3 w4:World} {v v4:Value} {acc new:List (List UInt8 × JV)} (h:GS S W0 w3 v acc) (hZ:∀ b,S b→b<W0.heap.size) (hv:MgS w4 S (W0.heap.size+1) v4 (acc++new)) (hg:w3.grownBy w4 v.ownBlock):
  GS S W0 (w4.setCell ⟨W0.heap.size,4,none⟩ v4) v4 (acc++new):=by
 have hne:∀ k,k<W0.heap.size+1→v.ownBlock≠some k:=fun k hk e=>by have:=(h.vs.own_lt e).1;omega
 have hY:Blk w4 W0.heap.size _ _:=(hg.block _ h.bx.lt (fun e=>hne _ (by omega) e.symm)).trans h.bx
 refine ⟨hv.frx (X:=W0.heap.size) (fun b hb=>by have:=hZ b hb;omega) (by omega) ((FrX.refl _ _).setCell rfl _),hY.set 4 _,?_⟩
 exact (Below.grown h.fr hg h.fr.size (fun k hk=>by have:=(h.vs.own_lt hk).1;omega):Fr W0 w4).setCell (p:=⟨W0.heap.size,4,none⟩) (Nat.le_refl _) _
theorem GS.fin {S:Nat→Prop} {w W0 wr:World} {sa:Option Addr} {sc:Nat} {acc:List (List UInt8 × JV)} (h:GS S W0 wr (.slice sa acc.length sc) acc) (hF:Fr w W0) (hR:w.heap.size+1+1<W0.heap.size) (hZ:∀ b,S b→b<w.heap.size) (h63:acc.length≤140737488355328):
  InV (((((wr.setCell ⟨w.heap.size+1+1,0,none⟩ (.int .i64 6)).setCell ⟨w.heap.size+1+1,1,none⟩ (.int .i64 0)).setCell ⟨w.heap.size+1+1,2,none⟩ (.string ⟨#[]⟩)).setCell ⟨w.heap.size+1+1,3,none⟩ (.slice none 0 0)).setCell ⟨w.heap.size+1+1,4,none⟩ (.slice sa acc.length sc))
   (NeS S w (((((wr.setCell ⟨w.heap.size+1+1,0,none⟩ (.int .i64 6)).setCell ⟨w.heap.size+1+1,1,none⟩ (.int .i64 0)).setCell ⟨w.heap.size+1+1,2,none⟩ (.string ⟨#[]⟩)).setCell ⟨w.heap.size+1+1,3,none⟩ (.slice none 0 0)).setCell ⟨w.heap.size+1+1,4,none⟩ (.slice sa acc.length sc)))
   (JV.mapV acc) (.agg #[.int .i64 6,.int .i64 0,.string ⟨#[]⟩,.slice none 0 0,.slice sa acc.length sc]) ∧
  Fr w (((((wr.setCell ⟨w.heap.size+1+1,0,none⟩ (.int .i64 6)).setCell ⟨w.heap.size+1+1,1,none⟩ (.int .i64 0)).setCell ⟨w.heap.size+1+1,2,none⟩ (.string ⟨#[]⟩)).setCell ⟨w.heap.size+1+1,3,none⟩ (.slice none 0 0)).setCell ⟨w.heap.size+1+1,4,none⟩ (.slice sa acc.length sc)):=by
 refine ⟨(h.vs.inV h63).map (fun b hb=>?_) (fun b o hb=>?_),(hF.trans h.fr).put5 (X:=w.heap.size+1+1) (by omega) _ _ _ _ _⟩
 ·rcases hb with hb | hb
  ·exact .inl hb
  ·exact .inr ⟨by have:=hF.size;omega,by simpa [World.setCell] using hb.2⟩
 ·have hne:b≠w.heap.size+1+1:=by
   rcases hb with hb | hb
   ·have:=hZ b hb;omega
   ·omega
  unfold World.cell?
  rw [Below.heap_setCell _ _ _ _ hne,Below.heap_setCell _ _ _ _ hne,Below.heap_setCell _ _ _ _ hne,Below.heap_setCell _ _ _ _ hne,Below.heap_setCell _ _ _ _ hne]

theorem rwithS_is (v x:JV) (B:Option Addr) (d:Nat) (B':Option Addr) (d':Nat) (C:Option Addr) (f:Nat) (C':Option Addr) (f':Nat) (s:List UInt8) (w:World) (S:Nat→Prop) (hZ:∀ b,S b→b<w.heap.size) (hv:InV w S v (vA v B d B' d')) (hx:InV w S x (vA x C f C' f')) (hl:v.ms.length*96≤140737488300000) (hs:s.length≤140737488355328):
  Calls Tryz.prog 56 #[.agg #[.int .i64 v.kd,.int .i64 v.nm,.string ⟨v.tx.toArray⟩,.slice B v.ls.length d,.slice B' v.ms.length d'],.string ⟨s.toArray⟩,.agg #[.int .i64 x.kd,.int .i64 x.nm,.string ⟨x.tx.toArray⟩,.slice C x.ls.length f,.slice C' x.ms.length f']] w fun e w'=>∃ (D:Option Addr) (g:Nat),e=.returned (.agg #[.int .i64 6,.int .i64 0,.string ⟨#[]⟩,.slice none 0 0,.slice D (Pt.withM (if v.kd=6 then v.ms else []) s x).length g])∧InV w' (NeS S w w') (JV.mapV (Pt.withM (if v.kd=6 then v.ms else []) s x)) (.agg #[.int .i64 6,.int .i64 0,.string ⟨#[]⟩,.slice none 0 0,.slice D (Pt.withM (if v.kd=6 then v.ms else []) s x).length g])∧Fr w w':=by
 obtain ⟨A,c,A',c',he,_,hms⟩:=hv.open_
 have hA:B'=A':=by obtain ⟨_,_,_,_,e4⟩:=five he;injection e4
 subst hA
 have HMS:Hid (∀ W,Fr w W→MsC W S B' v.ms):=fun W hW=>hms.keepS hZ hW
 have hmsl:(v.ms.length:Int)≤140737488355328:=by omega
 have HX:=Lib.hid hx
 have hF3:Fr w (((w.alloc (.cells #[.int .i64 v.kd,.int .i64 v.nm,.string ⟨v.tx.toArray⟩,.slice B v.ls.length d,.slice B' v.ms.length d'] 25)).alloc (.cells #[.int .i64 x.kd,.int .i64 x.nm,.string ⟨x.tx.toArray⟩,.slice C x.ls.length f,.slice C' x.ms.length f'] 25)).alloc (.cells #[.int .i64 0,.int .i64 0,.string ⟨#[]⟩,.slice none 0 0,.slice none 0 0] 25)):=(((Fr.refl w).alloc _).alloc _).alloc _
 have hB3:Blk (((w.alloc (.cells #[.int .i64 v.kd,.int .i64 v.nm,.string ⟨v.tx.toArray⟩,.slice B v.ls.length d,.slice B' v.ms.length d'] 25)).alloc (.cells #[.int .i64 x.kd,.int .i64 x.nm,.string ⟨x.tx.toArray⟩,.slice C x.ls.length f,.slice C' x.ms.length f'] 25)).alloc (.cells #[.int .i64 0,.int .i64 0,.string ⟨#[]⟩,.slice none 0 0,.slice none 0 0] 25)) w.heap.size #[.int .i64 v.kd,.int .i64 v.nm,.string ⟨v.tx.toArray⟩,.slice B v.ls.length d,.slice B' v.ms.length d'] 25:=((Blk.made w _ _).keep ((Fr.refl _).alloc _)).keep ((Fr.refl _).alloc _)
 have hX3:Blk (((w.alloc (.cells #[.int .i64 v.kd,.int .i64 v.nm,.string ⟨v.tx.toArray⟩,.slice B v.ls.length d,.slice B' v.ms.length d'] 25)).alloc (.cells #[.int .i64 x.kd,.int .i64 x.nm,.string ⟨x.tx.toArray⟩,.slice C x.ls.length f,.slice C' x.ms.length f'] 25)).alloc (.cells #[.int .i64 0,.int .i64 0,.string ⟨#[]⟩,.slice none 0 0,.slice none 0 0] 25)) (w.heap.size+1) #[.int .i64 x.kd,.int .i64 x.nm,.string ⟨x.tx.toArray⟩,.slice C x.ls.length f,.slice C' x.ms.length f'] 25:=(boxz (Blk.made (w.alloc _) _ _)).keep ((Fr.refl _).alloc _)
 have hZ3:Blk (((w.alloc (.cells #[.int .i64 v.kd,.int .i64 v.nm,.string ⟨v.tx.toArray⟩,.slice B v.ls.length d,.slice B' v.ms.length d'] 25)).alloc (.cells #[.int .i64 x.kd,.int .i64 x.nm,.string ⟨x.tx.toArray⟩,.slice C x.ls.length f,.slice C' x.ms.length f'] 25)).alloc (.cells #[.int .i64 0,.int .i64 0,.string ⟨#[]⟩,.slice none 0 0,.slice none 0 0] 25)) (w.heap.size+1+1) #[.int .i64 0,.int .i64 0,.string ⟨#[]⟩,.slice none 0 0,.slice none 0 0] 25:=boxy (Blk.made ((w.alloc _).alloc _) _ _)
 obtain ⟨mm,hmm0⟩:∃ mm,(if v.kd=6 then v.ms else [])=mm:=⟨_,rfl⟩
 rw [hmm0]
 have h6b:((v.kd == 6)=true∧Hid (mm=v.ms))∨((v.kd == 6)=false∧Hid (mm=[])):=by
  by_cases h6:v.kd=6
  ·exact .inl ⟨by rw [beq_iff_eq];exact h6,Lib.hid (hmm0.symm.trans (if_pos h6))⟩
  ·exact .inr ⟨(ikind h6).1,Lib.hid (hmm0.symm.trans (if_neg h6))⟩
 clear hmm0
 clear hv hx he hms
 go_enter Tryz.func56,Tryz.ntmps56
 go_upto_region 1 with fail
 generalize (((w.alloc (.cells #[.int .i64 v.kd,.int .i64 v.nm,.string ⟨v.tx.toArray⟩,.slice B v.ls.length d,.slice B' v.ms.length d'] 25)).alloc (.cells #[.int .i64 x.kd,.int .i64 x.nm,.string ⟨x.tx.toArray⟩,.slice C x.ls.length f,.slice C' x.ms.length f'] 25)).alloc (.cells #[.int .i64 0,.int .i64 0,.string ⟨#[]⟩,.slice none 0 0,.slice none 0 0] 25))=W0 at hF3 hB3 hX3 hZ3 ⊢
 have HF3:=Lib.hid hF3
 have HB3:=Lib.hid hB3
 have HX3:=Lib.hid hX3
 have HZ3:=Lib.hid hZ3
 have hz1:w.heap.size+1+1<W0.heap.size:=hZ3.lt
 have hZW:∀ b,S b→b<W0.heap.size:=fun b hb=>by have:=hZ b hb;omega
 have hG0:Hid (GS S W0 (W0.alloc (.cells #[.int .i64 6,.int .i64 0,.string ⟨#[]⟩,.slice none 0 0,(.slice none 0 0)] 25)) (.slice none 0 0) []):=⟨MgS.none_ _ ⟨fun b hb=>by have:=hZW b hb;omega,by simp⟩,Blk.made W0 _ _,(Fr.refl W0).alloc _⟩
 clear hF3 hB3 hX3 hZ3
 go_wp2_with fail
 rcases h6b with ⟨q6,hmm⟩ | ⟨q6,hmm⟩
 ·go_loopw [8,9] (fun dv j wr=>∃ (i:Nat) (dn:Bool) (nv:Value) (acc:List (List UInt8 × JV)),i≤v.ms.length∧dv=.bool dn∧j=.int .i64 i∧Hid (GS S W0 wr nv acc)∧Hid (Pt.WR v.ms s x i dn acc)) (fun _ j _=>v.ms.length - (intOf j).toNat)
  case atStart=>exact ⟨0,false,_,[],by omega,rfl,rfl,hG0,Lib.hid (Pt.WR.start _ _ _)⟩
  case round=>
   obtain ⟨i,dn,nv,acc,hi,rfl,rfl,hG,hI⟩:=hrel
   obtain ⟨sa,sc,rfl⟩:=hG.out.vs.is_slice
   obtain ⟨⟨g0,g1,g2,g3,g4⟩,gf0,gf1,gf2,gf3,gf4⟩:=box5 hG.out.bx
   obtain ⟨⟨v0,v1,v2,v3,v4⟩,_⟩:=box5 (HB3.out.keep hG.out.fr)
   have hk97:(acc.length+1)*96≤140737488355328:=by have:=hI.out.1;omega
   by_cases hlt:i<v.ms.length
   ·have hlt':(i:Int)<(v.ms.length:Int):=by omega
    obtain ⟨b5,o5,E,e,E',e',rfl,hbb,hnl,c0,⟨c1,c2,c3,c4,c5⟩,hiv⟩:=HMS.out _ (HF3.out.trans hG.out.fr) i hlt
    obtain ⟨pu,hpu⟩:∃ pu,v.ms[i]=pu:=⟨_,rfl⟩
    have hon:=fun hh=>hI.out.on hlt hh
    have hhit:dn=false→v.ms[i].1=s→Pt.WR v.ms s x (i+1) true (acc++[(s,x)]):=fun h1 h2=>by subst h1;exact hI.out.hit hlt h2
    rw [hpu] at c0 c1 c2 c3 c4 c5 hiv hnl hon hhit
    obtain ⟨nm,u⟩:=pu
    simp only at c0 c1 c2 c3 c4 c5 hiv hnl hon hhit
    have HON:=Lib.hid hon
    have HHIT:=Lib.hid hhit
    have HIV:=Lib.hid hiv
    clear hon hhit hiv hpu
    go_upto_region 7 with fail
    have hw7:=(Fr.refl wr).alloc (.cells #[.string ⟨nm.toArray⟩,.int .i64 u.kd,.int .i64 u.nm,.string ⟨u.tx.toArray⟩,.slice E u.ls.length e,.slice E' u.ms.length e'] 38)
    have hb7:=Blk.made wr #[.string ⟨nm.toArray⟩,.int .i64 u.kd,.int .i64 u.nm,.string ⟨u.tx.toArray⟩,.slice E u.ls.length e,.slice E' u.ms.length e'] 38
    generalize (wr.alloc (.cells #[.string ⟨nm.toArray⟩,.int .i64 u.kd,.int .i64 u.nm,.string ⟨u.tx.toArray⟩,.slice E u.ls.length e,.slice E' u.ms.length e'] 38))=W7 at hw7 hb7 ⊢
    have hX7W:W0.heap.size≤wr.heap.size:=hG.out.fr.size
    have hX7O:(Value.slice sa acc.length sc).ownBlock≠some wr.heap.size:=fun e=>by have:=(hG.out.vs.own_lt e).2;omega
    have hX7B:W0.heap.size<wr.heap.size:=hG.out.bx.lt
    have hX7Z:∀ b,S b→b≠wr.heap.size:=fun b hb=>by have:=hZW b hb;omega
    generalize hX7e:wr.heap.size=X7 at hb7 hX7W hX7O hX7B hX7Z ⊢
    have hG7:=hG.out.keep hw7
    obtain ⟨⟨p0,p1,p2,p3,p4⟩,pf0,pf1,pf2,pf3,pf4⟩:=box5 hG7.bx
    obtain ⟨⟨x0,x1,x2,x3,x4⟩,_⟩:=box5 (HX3.out.keep hG7.fr)
    have HG7:=Lib.hid hG7
    have HB7:=Lib.hid hb7
    have HW7:=Lib.hid hw7
    obtain ⟨⟨m0,m1,m2,m3,m4,m5⟩,mf0,mf1,mf2,mf3,mf4,mf5⟩:=box6 hb7
    have hZr:=hZW
    have hnl7:nm.length≤140737488355328:=hnl
    clear hw7 hb7 hG7 c0 c1 c2 c3 c4 c5 g0 g1 g2 g3 g4 gf0 gf1 gf2 gf3 gf4 v0 v1 v2 v3 v4
    have alt:(nm=s∧dn=false)∨(nm=s∧dn=true)∨nm≠s:=by
     by_cases h:nm=s
     ·cases dn
      ·exact .inl ⟨h,rfl⟩
      ·exact .inr (.inl ⟨h,rfl⟩)
     ·exact .inr (.inr h)
    rcases alt with ⟨rfl,rfl⟩ | alt
    ·have hcmp:((⟨nm.toArray⟩:ByteArray).toList == (⟨nm.toArray⟩:ByteArray).toList)=true:=beq_self_eq_true _
     go_upto_region 10 with fail
     have hs8:Blk (((((W7.setCell ⟨X7,1,none⟩ (.int .i64 x.kd)).setCell ⟨X7,2,none⟩ (.int .i64 x.nm)).setCell ⟨X7,3,none⟩ (.string ⟨x.tx.toArray⟩)).setCell ⟨X7,4,none⟩ (.slice C x.ls.length f)).setCell ⟨X7,5,none⟩ (.slice C' x.ms.length f')) X7 #[.string ⟨nm.toArray⟩,.int .i64 x.kd,.int .i64 x.nm,.string ⟨x.tx.toArray⟩,.slice C x.ls.length f,.slice C' x.ms.length f'] 38:=((((HB7.out.set 1 (.int .i64 x.kd)).set 2 (.int .i64 x.nm)).set 3 (.string ⟨x.tx.toArray⟩)).set 4 (.slice C x.ls.length f)).set 5 (.slice C' x.ms.length f')
     have hg8:∀ k,k<w.heap.size+1+1+1+0→True:=fun _ _=>trivial
     have hne:∀ j,(Addr.mk X7 j none).block≠W0.heap.size:=fun j=>by show X7≠_;omega
     have hf8:Fr W0 (((((W7.setCell ⟨X7,1,none⟩ (.int .i64 x.kd)).setCell ⟨X7,2,none⟩ (.int .i64 x.nm)).setCell ⟨X7,3,none⟩ (.string ⟨x.tx.toArray⟩)).setCell ⟨X7,4,none⟩ (.slice C x.ls.length f)).setCell ⟨X7,5,none⟩ (.slice C' x.ms.length f')):=((((HG7.out.fr.setCell (p:=⟨X7,1,none⟩) hX7W _).setCell (p:=⟨X7,2,none⟩) hX7W _).setCell (p:=⟨X7,3,none⟩) hX7W _).setCell (p:=⟨X7,4,none⟩) hX7W _).setCell (p:=⟨X7,5,none⟩) hX7W _
     have hx8:Blk (((((W7.setCell ⟨X7,1,none⟩ (.int .i64 x.kd)).setCell ⟨X7,2,none⟩ (.int .i64 x.nm)).setCell ⟨X7,3,none⟩ (.string ⟨x.tx.toArray⟩)).setCell ⟨X7,4,none⟩ (.slice C x.ls.length f)).setCell ⟨X7,5,none⟩ (.slice C' x.ms.length f')) W0.heap.size #[.int .i64 6,.int .i64 0,.string ⟨#[]⟩,.slice none 0 0,(.slice sa acc.length sc)] 25:=((((HG7.out.bx.other (hne 1) _).other (hne 2) _).other (hne 3) _).other (hne 4) _).other (hne 5) _
     have hv8:=((((HG7.out.vs.other (a:=⟨X7,1,none⟩) hX7O hX7Z (.int .i64 x.kd)).other (a:=⟨X7,2,none⟩) hX7O hX7Z (.int .i64 x.nm)).other (a:=⟨X7,3,none⟩) hX7O hX7Z (.string ⟨x.tx.toArray⟩)).other (a:=⟨X7,4,none⟩) hX7O hX7Z (.slice C x.ls.length f)).other (a:=⟨X7,5,none⟩) hX7O hX7Z (.slice C' x.ms.length f')
     clear p0 p1 p2 p3 p4 pf0 pf1 pf2 pf3 pf4 x0 x1 x2 x3 x4 m0 m1 m2 m3 m4 m5 mf0 mf1 mf2 mf3 mf4 mf5
     generalize (((((W7.setCell ⟨X7,1,none⟩ (.int .i64 x.kd)).setCell ⟨X7,2,none⟩ (.int .i64 x.nm)).setCell ⟨X7,3,none⟩ (.string ⟨x.tx.toArray⟩)).setCell ⟨X7,4,none⟩ (.slice C x.ls.length f)).setCell ⟨X7,5,none⟩ (.slice C' x.ms.length f'))=W8 at hs8 hf8 hx8 hv8 ⊢
     have HG8:Hid (GS S W0 W8 (.slice sa acc.length sc) acc):=⟨hv8,hx8,hf8⟩
     obtain ⟨⟨p0,p1,p2,p3,p4⟩,pf0,pf1,pf2,pf3,pf4⟩:=box5 hx8
     obtain ⟨⟨m0,m1,m2,m3,m4,m5⟩,_⟩:=box6 hs8
     have HU7:Hid (InV W8 S x (vA x C f C' f')):=HX.out.keepS hZ (HF3.out.trans hf8)
     clear hs8 hf8 hx8 hv8 hg8
     go_wp2_with (at_builtin;refine wpl_mG_lit rfl (.tmp 40) (.tmp 42) rfl S (W0.heap.size+1) _ acc rfl HG8.out.vs nm x C f C' f' rfl hnl7 HU7.out rfl (by simp) hk97 ?_;intro v4 w4 hv4 hg4 _;obtain ⟨b4,k4,rfl⟩:=hv4.is_slice2 (n:=1) rfl;have hne4:∀ k,k<W0.heap.size+1→(Value.slice sa acc.length sc).ownBlock≠some k:=(fun k hk e=>by have:=(HG8.out.vs.own_lt e).1;omega);have hba:=HG8.out.bx.keep ((Fr.refl _).alloc (.cells #[.string ⟨nm.toArray⟩,.int .i64 x.kd,.int .i64 x.nm,.string ⟨x.tx.toArray⟩,.slice C x.ls.length f,.slice C' x.ms.length f'] 38));have hga:=HG8.out.keep ((Fr.refl _).alloc (.cells #[.string ⟨nm.toArray⟩,.int .i64 x.kd,.int .i64 x.nm,.string ⟨x.tx.toArray⟩,.slice C x.ls.length f,.slice C' x.ms.length f'] 38));have hg5:=hga.app hZW hv4 hg4;have HG5:=Lib.hid hg5;have hy4:Blk w4 W0.heap.size _ _:=(hg4.block _ hba.lt (fun e=>hne4 _ (by omega) e.symm)).trans hba;obtain ⟨⟨zz0,zz1,zz2,zz3,zz4⟩,zg0,zg1,zg2,zg3,zg4⟩:=box5 hy4;clear hv4 hg4 hg5 hy4 hne4 hba hga)
     exact ⟨⟨i+1,true,_,acc++[(nm,x)],by omega,rfl,by go_num,HG5,Lib.hid (HHIT.out rfl rfl)⟩,by simp [intOf];omega⟩
    ·have HS2:Hid (dn=true∨nm≠s):=by rcases alt with ⟨_,h⟩ | h;exact .inl h;exact .inr h
     have HU7:Hid (InV W7 S u (vA u E e E' e')):=HIV.out.keepS (fun b hb=>Nat.lt_of_lt_of_le (hZW b hb) hG.out.fr.size) HW7.out
     rcases alt with ⟨rfl,rfl⟩ | alt
     ·have hcmp:((⟨nm.toArray⟩:ByteArray).toList == (⟨nm.toArray⟩:ByteArray).toList)=true:=beq_self_eq_true _
      go_wp2_with (at_builtin;refine wpl_mG_lit rfl (.tmp 40) (.tmp 42) rfl S (W0.heap.size+1) _ acc rfl HG7.out.vs nm u E e E' e' rfl hnl7 HU7.out rfl (by simp) hk97 ?_;intro v4 w4 hv4 hg4 _;obtain ⟨b4,k4,rfl⟩:=hv4.is_slice2 (n:=1) rfl;have hne4:∀ k,k<W0.heap.size+1→(Value.slice sa acc.length sc).ownBlock≠some k:=(fun k hk e=>by have:=(HG7.out.vs.own_lt e).1;omega);have hba:=HG7.out.bx.keep ((Fr.refl _).alloc (.cells #[.string ⟨nm.toArray⟩,.int .i64 u.kd,.int .i64 u.nm,.string ⟨u.tx.toArray⟩,.slice E u.ls.length e,.slice E' u.ms.length e'] 38));have hga:=HG7.out.keep ((Fr.refl _).alloc (.cells #[.string ⟨nm.toArray⟩,.int .i64 u.kd,.int .i64 u.nm,.string ⟨u.tx.toArray⟩,.slice E u.ls.length e,.slice E' u.ms.length e'] 38));have hg5:=hga.app hZW hv4 hg4;have HG5:=Lib.hid hg5;have hy4:Blk w4 W0.heap.size _ _:=(hg4.block _ hba.lt (fun e=>hne4 _ (by omega) e.symm)).trans hba;obtain ⟨⟨zz0,zz1,zz2,zz3,zz4⟩,zg0,zg1,zg2,zg3,zg4⟩:=box5 hy4;clear hv4 hg4 hg5 hy4 hne4 hba hga)
      exact ⟨⟨i+1,true,_,acc++[(nm,u)],by omega,rfl,by go_num,HG5,Lib.hid (HON.out HS2.out)⟩,by simp [intOf];omega⟩
     ·have hcmp:((⟨nm.toArray⟩:ByteArray).toList == (⟨s.toArray⟩:ByteArray).toList)=false:=by rw [bl_beq'];exact decide_eq_false alt
      have hcmp2:(nm == s)=false:=by rw [beq_eq_false_iff_ne];exact alt
      clear alt
      go_wp2_with (at_builtin;refine wpl_mG_lit rfl (.tmp 40) (.tmp 42) rfl S (W0.heap.size+1) _ acc rfl HG7.out.vs nm u E e E' e' rfl hnl7 HU7.out rfl (by simp) hk97 ?_;intro v4 w4 hv4 hg4 _;obtain ⟨b4,k4,rfl⟩:=hv4.is_slice2 (n:=1) rfl;have hne4:∀ k,k<W0.heap.size+1→(Value.slice sa acc.length sc).ownBlock≠some k:=(fun k hk e=>by have:=(HG7.out.vs.own_lt e).1;omega);have hba:=HG7.out.bx.keep ((Fr.refl _).alloc (.cells #[.string ⟨nm.toArray⟩,.int .i64 u.kd,.int .i64 u.nm,.string ⟨u.tx.toArray⟩,.slice E u.ls.length e,.slice E' u.ms.length e'] 38));have hga:=HG7.out.keep ((Fr.refl _).alloc (.cells #[.string ⟨nm.toArray⟩,.int .i64 u.kd,.int .i64 u.nm,.string ⟨u.tx.toArray⟩,.slice E u.ls.length e,.slice E' u.ms.length e'] 38));have hg5:=hga.app hZW hv4 hg4;have HG5:=Lib.hid hg5;have hy4:Blk w4 W0.heap.size _ _:=(hg4.block _ hba.lt (fun e=>hne4 _ (by omega) e.symm)).trans hba;obtain ⟨⟨zz0,zz1,zz2,zz3,zz4⟩,zg0,zg1,zg2,zg3,zg4⟩:=box5 hy4;clear hv4 hg4 hg5 hy4 hne4 hba hga)
      exact ⟨⟨i+1,dn,_,acc++[(nm,u)],by omega,rfl,by go_num,HG5,Lib.hid (HON.out HS2.out)⟩,by simp [intOf];omega⟩
   ·obtain rfl:i=v.ms.length:=by omega
    have hstop:=hI.out.stop
    obtain ⟨⟨r0,r1,r2,r3,r4⟩,rf0,rf1,rf2,rf3,rf4⟩:=box5 (HZ3.out.keep hG.out.fr)
    obtain ⟨⟨x0,x1,x2,x3,x4⟩,_⟩:=box5 (HX3.out.keep hG.out.fr)
    have HRZ:=Lib.hid (HZ3.out.keep hG.out.fr)
    have HST:=Lib.hid hstop
    have h63:acc.length+1≤140737488355328:=by omega
    clear hstop
    cases dn with
    | true=>
     go_wp2_with fail
     refine bodyPost_ret (results_cv (by rfl) rfl _ (w.heap.size+1+1) (by rfl) _ _ _ _ _ (set5 HRZ.out)) rfl ?_
     rw [hmm.out,HST.out]
     obtain ⟨f1,f2⟩:=hG.out.fin HF3.out hz1 hZ (by omega)
     exact ⟨sa,sc,rfl,f1,f2⟩
    | false=>
     have hnl7:s.length≤140737488355328:=hs
     have HU7:Hid (InV wr S x (vA x C f C' f')):=HX.out.keepS hZ (HF3.out.trans hG.out.fr)
     have HG7:=hG
     go_wp2_with (at_builtin;refine wpl_mG_lit rfl (.tmp 48) (.tmp 52) rfl S (W0.heap.size+1) _ acc rfl HG7.out.vs s x C f C' f' rfl hnl7 HU7.out rfl (by simp) hk97 ?_;intro v4 w4 hv4 hg4 _;obtain ⟨b4,k4,rfl⟩:=hv4.is_slice2 (n:=1) rfl;have hne4:∀ k,k<W0.heap.size+1→(Value.slice sa acc.length sc).ownBlock≠some k:=(fun k hk e=>by have:=(HG7.out.vs.own_lt e).1;omega);have hba:=HG7.out.bx.keep ((Fr.refl _).alloc (.cells #[.string ⟨s.toArray⟩,.int .i64 x.kd,.int .i64 x.nm,.string ⟨x.tx.toArray⟩,.slice C x.ls.length f,.slice C' x.ms.length f'] 38));have hga:=HG7.out.keep ((Fr.refl _).alloc (.cells #[.string ⟨s.toArray⟩,.int .i64 x.kd,.int .i64 x.nm,.string ⟨x.tx.toArray⟩,.slice C x.ls.length f,.slice C' x.ms.length f'] 38));have hg5:=hga.app hZW hv4 hg4;have HG5:=Lib.hid hg5;have hy4:Blk w4 W0.heap.size _ _:=(hg4.block _ hba.lt (fun e=>hne4 _ (by omega) e.symm)).trans hba;obtain ⟨⟨zz0,zz1,zz2,zz3,zz4⟩,zg0,zg1,zg2,zg3,zg4⟩:=box5 hy4;have hfr4:=HG5.out.fr;have hzz4:Blk w4 (w.heap.size+1+1) _ _:=HZ3.out.keep (Below.grown (HG7.out.fr.alloc _) hg4 (HG7.out.fr.alloc _).size (fun k hk=>by have:=(HG7.out.vs.own_lt hk).1;omega):Fr W0 w4);obtain ⟨⟨t0,t1,t2,t3,t4⟩,tf0,tf1,tf2,tf3,tf4⟩:=box5 hzz4;have HZ4:=Lib.hid hzz4;clear hfr4 hzz4;clear hv4 hg4 hg5 hy4 hne4 hba hga)
     refine bodyPost_ret (results_cv (by rfl) rfl _ (w.heap.size+1+1) (by rfl) _ _ _ _ _ (set5 (HZ4.out.other (show (Addr.mk W0.heap.size 4 none).block≠_ by show W0.heap.size≠_;omega) _))) rfl ?_
     rw [hmm.out,HST.out]
     rw [if_neg (by simp)]
     have hlen:(acc++[(s,x)]).length=acc.length+1:=by simp
     have hG5:=HG5.out
     rw [show (Value.slice b4 (acc.length+1) k4)=.slice b4 (acc++[(s,x)]).length k4 by rw [hlen]] at hG5 ⊢
     obtain ⟨f1,f2⟩:=hG5.fin HF3.out hz1 hZ (by rw [hlen];simp at *;omega)
     exact ⟨b4,k4,rfl,f1,f2⟩
 ·go_loopw [8,9] (fun dv j wr=>dv=.bool false∧j=.int .i64 0∧Hid (GS S W0 wr (.slice none 0 0) [])) (fun _ _ _=>0)
  case atStart=>exact ⟨rfl,rfl,hG0⟩
  case round=>
   obtain ⟨rfl,rfl,hG⟩:=hrel
   obtain ⟨⟨g0,g1,g2,g3,g4⟩,gf0,gf1,gf2,gf3,gf4⟩:=box5 hG.out.bx
   obtain ⟨⟨v0,v1,v2,v3,v4⟩,_⟩:=box5 (HB3.out.keep hG.out.fr)
   obtain ⟨⟨r0,r1,r2,r3,r4⟩,rf0,rf1,rf2,rf3,rf4⟩:=box5 (HZ3.out.keep hG.out.fr)
   obtain ⟨⟨x0,x1,x2,x3,x4⟩,_⟩:=box5 (HX3.out.keep hG.out.fr)
   have HRZ:=Lib.hid (HZ3.out.keep hG.out.fr)
   have hnl7:s.length≤140737488355328:=hs
   have HU7:Hid (InV wr S x (vA x C f C' f')):=HX.out.keepS hZ (HF3.out.trans hG.out.fr)
   have HG7:=hG
   have alt:(0:Int)<(v.ms.length:Int) ∨ ¬ (0:Int)<(v.ms.length:Int):=by omega
   rcases alt with h0 | h0
   all_goals
    go_wp2_with (at_builtin;refine wpl_mG_lit rfl (.tmp 48) (.tmp 52) rfl S (W0.heap.size+1) _ ([]:List (List UInt8 × JV)) rfl HG7.out.vs s x C f C' f' rfl hnl7 HU7.out rfl (by simp) (by simp) ?_;intro v4 w4 hv4 hg4 _;obtain ⟨b4,k4,rfl⟩:=hv4.is_slice2 (n:=1) rfl;have hne4:∀ k,k<W0.heap.size+1→(Value.slice none ([]:List (List UInt8 × JV)).length 0).ownBlock≠some k:=(fun k hk e=>by have:=(HG7.out.vs.own_lt e).1;omega);have hba:=HG7.out.bx.keep ((Fr.refl _).alloc (.cells #[.string ⟨s.toArray⟩,.int .i64 x.kd,.int .i64 x.nm,.string ⟨x.tx.toArray⟩,.slice C x.ls.length f,.slice C' x.ms.length f'] 38));have hga:=HG7.out.keep ((Fr.refl _).alloc (.cells #[.string ⟨s.toArray⟩,.int .i64 x.kd,.int .i64 x.nm,.string ⟨x.tx.toArray⟩,.slice C x.ls.length f,.slice C' x.ms.length f'] 38));have hg5:=hga.app hZW hv4 hg4;have HG5:=Lib.hid hg5;have hy4:Blk w4 W0.heap.size _ _:=(hg4.block _ hba.lt (fun e=>hne4 _ (by omega) e.symm)).trans hba;obtain ⟨⟨zz0,zz1,zz2,zz3,zz4⟩,zg0,zg1,zg2,zg3,zg4⟩:=box5 hy4;have hfr4:=HG5.out.fr;have hzz4:Blk w4 (w.heap.size+1+1) _ _:=HZ3.out.keep (Below.grown (HG7.out.fr.alloc _) hg4 (HG7.out.fr.alloc _).size (fun k hk=>by have:=(HG7.out.vs.own_lt hk).1;omega):Fr W0 w4);obtain ⟨⟨t0,t1,t2,t3,t4⟩,tf0,tf1,tf2,tf3,tf4⟩:=box5 hzz4;have HZ4:=Lib.hid hzz4;clear hfr4 hzz4;clear hv4 hg4 hg5 hy4 hne4 hba hga)
    refine bodyPost_ret (results_cv (by rfl) rfl _ (w.heap.size+1+1) (by rfl) _ _ _ _ _ (set5 (HZ4.out.other (show (Addr.mk W0.heap.size 4 none).block≠_ by show W0.heap.size≠_;omega) _))) rfl ?_
    rw [hmm.out]
    have hG5:GS S W0 (w4.setCell ⟨W0.heap.size,4,none⟩ (.slice b4 1 k4)) (.slice b4 [(s,x)].length k4) [(s,x)]:=HG5.out
    obtain ⟨f1,f2⟩:=hG5.fin HF3.out hz1 hZ (by simp)
    exact ⟨b4,k4,rfl,f1,f2⟩
/- tree.Get, tree.Without, told of a set of blocks. -/

theorem MgS.cap {w:World} {O:Nat→Prop} {K n c:Nat} {A:Option Addr} {m:List (List UInt8 × JV)} (h:MgS w O K (.slice A n c) m):m.length≤c:=by
 obtain ⟨_,xs,hvb,hlen,_⟩:=h
 obtain ⟨_,⟨hv,hn⟩ | ⟨g,cap,cur,hv,hb,hg,hc,hm,hs,ht⟩⟩:=hvb.1
 ·omega
 ·injection hv with _ _ e
  omega
theorem MgS.cq {w:World} {O:Nat→Prop} {K n c:Nat} {A:Option Addr} {m:List (List UInt8 × JV)} (h:MgS w O K (.slice A n c) m) (h0:0<m.length) (S:Nat→Prop):∃ g,A=some ⟨g,0,none⟩∧K≤g∧CqI w g m S O 0:=by
 obtain ⟨_,xs,hvb,hlen,hin⟩:=id h
 obtain ⟨_,⟨_,hn⟩ | ⟨g,cap,cur,hv,hb,hg,hc,hm,hs,ht⟩⟩:=hvb.1
 ·omega
 ·injection hv with e1 _ _
  refine ⟨g,e1,hb,⟨cur,hg,by rw [hs,← hlen];exact Nat.mul_le_mul_right _ hc⟩,fun k hk=>?_⟩
  have hx:k<xs.length:=by omega
  obtain ⟨e0,hnl,hv2⟩:=hin k hx hk
  obtain ⟨C,f,C',f',e⟩:=hv2.shape
  have hat:∀ j u,j<6→(Value.string ⟨xs[k].1.toArray⟩::xs[k].2.cells.toList)[j]? = some u→w.cell? ⟨g,k*6+j,none⟩=some u:=fun j u hj hu=>by
   have hm2:=mcs_at hvb.2 hx hj
   rw [hu] at hm2
   rw [cell_of_row w g _ cur _ (0,0) hg]
   rw [← ht,List.getElem?_take] at hm2
   split at hm2
   ·first | exact hm2 | (rw [Array.getElem?_toList] at hm2;exact hm2) | simpa using hm2
   ·cases hm2
  rw [e] at hat hv2
  rw [if_neg (by omega)]
  have a0:=hat 0 _ (by omega) rfl
  rw [e0] at a0
  exact ⟨C,f,C',f',hnl,a0,⟨hat 1 _ (by omega) rfl,hat 2 _ (by omega) rfl,hat 3 _ (by omega) rfl,hat 4 _ (by omega) rfl,hat 5 _ (by omega) rfl⟩,hv2⟩
theorem delMS_is (m:List (List UInt8 × JV)) (A:Option Addr) (c X:Nat) (s:List UInt8) (w:World) (O:Nat→Prop) (K:Nat) (h:MgS w O K (.slice A m.length c) m) (hl:m.length≤1048576) (hX:X<K) (hc:w.cell? ⟨X,0,none⟩=some (.string ⟨s.toArray⟩)):
  Calls Tryz.prog 71 #[.slice A m.length c,(Value.func (.func 72) #[] #[.pointer (some ⟨X,0,none⟩)])] w fun e w'=>(∃ A' c',e=.returned (.slice A' (Bk.woM m s).length c')∧MsC w' (fun b=>O b∨Be K w'.heap.size b) A' (Bk.woM m s))∧Below K w w':=by
 have hK:=h.1
 have hKO:=hK.1
 have hK2:=hK.2
 have hXw:X<w.heap.size:=by omega
 have hcap:=h.cap
 have hin:=h.inV (by omega)
 obtain ⟨A1,c1,A1',c1',he,_,hms⟩:=hin.open_
 have hA:A=A1':=by obtain ⟨_,_,_,_,e4⟩:=five he;injection e4
 subst hA
 replace hms:MsC w (fun b=>O b∨(K≤b∧b<w.heap.size)) A m:=hms
 have hml:MsC w (Lo w.heap.size) A m:=hms.map (fun b hb=>by show b<_;rcases hb with hb | hb;have:=hKO b hb;omega;omega) (fun _ _ _=>rfl)
 have HIX:=Lib.hid (idxwo_is m A c X s w w.heap.size (Nat.le_refl _) hml (by omega) hXw hc)
 by_cases hno:∀ y (hy:y<m.length),m[y].1≠s
 ·have HW:Hid (Bk.woM m s=m):=Lib.hid (Bk.wo_all hno)
  have HMS:=Lib.hid hms
  have HIN:Hid (Calls Tryz.prog 90 #[.slice A m.length c,(Value.func (.func 72) #[] #[.pointer (some ⟨X,0,none⟩)])] w fun e w'=>e=.returned (.int .i64 (-1))∧Fr w w'):=Lib.hid (HIX.out.mono (by
   rintro e w' ⟨⟨_,he⟩ | ⟨i,hi,_,hs,_⟩,hf⟩
   ·exact ⟨he,hf⟩
   ·exact absurd hs (hno i hi)))
  clear h hin he hms hml hno HIX hc
  go_enter Tryz.func71,Tryz.ntmps71
  go_wp2_with (go_at_call 90;refine HIN.out.mono ?_;rintro e w1 ⟨rfl,hf⟩;have HF1:=Lib.hid hf;clear hf)
  go_ret
  refine ⟨⟨A,c,by rw [HW.out];rfl,?_⟩,HF1.out.mono hK.2⟩
  rw [HW.out]
  exact HMS.out.map (fun b hb=>by have:=HF1.out.size;rcases hb with hb | hb;exact .inl hb;exact .inr ⟨hb.1,by omega⟩) (fun b o hb=>HF1.out.cell (by rcases hb with hb | hb;have:=hKO b hb;omega;omega))
 ·obtain ⟨i0,hi0,hfi,hsi⟩:∃ i:Nat,∃ hi:i<m.length,(∀ y (hy:y<m.length),y<i→m[y].1≠s)∧m[i].1=s:=by
   rcases Classical.em (∃ i:Nat,∃ hi:i<m.length,(∀ y (hy:y<m.length),y<i→m[y].1≠s)∧m[i].1=s) with h1 | h1
   ·exact h1
   ·refine absurd (fun y=>?_) hno
    induction y using Nat.strongRecOn with
    | _ y ih=>exact fun hy hs=>h1 ⟨y,hy,fun z hz hzy=>ih z hzy hz,hs⟩
  have HIN:Hid (Calls Tryz.prog 90 #[.slice A m.length c,(Value.func (.func 72) #[] #[.pointer (some ⟨X,0,none⟩)])] w fun e w'=>e=.returned (.int .i64 (i0:Nat))∧Fr w w'):=Lib.hid (HIX.out.mono (by
   rintro e w' ⟨⟨hn,_⟩ | ⟨i,hi,hf2,hs,he⟩,hf⟩
   ·exact absurd hsi (hn i0 hi0)
   ·refine ⟨?_,hf⟩
    rcases Nat.lt_trichotomy i i0 with h1 | h1 | h1
    ·exact absurd hs (hfi i hi h1)
    ·subst h1;exact he
    ·exact absurd hsi (hf2 i0 hi0 h1)))
  have hm0:0<m.length:=by omega
  obtain ⟨g,rfl,hgK,hcq⟩:=h.cq hm0 (fun _=>False)
  obtain ⟨cur0,hb0,hz0⟩:=hcq.blk
  have hgw:=hb0.lt
  have hXg:X≠g:=by omega
  have HD0:Hid (∀ W,Fr w W→DfI W g m (m.take i0) O i0):=Lib.hid (fun W hW=>(DfI.start hcq i0).keep hW (fun b hb=>by have:=hKO b hb;omega))
  have HK0:Hid (Bk.woM (m.take (i0+1)) s=m.take i0):=Lib.hid (by
   rw [Bk.wo_take hi0,if_pos hsi,List.append_nil]
   exact Bk.wo_all (fun y hy=>by rw [List.getElem_take];rw [List.length_take] at hy;exact hfi y (by omega) (by omega)))
  have HC:=Lib.hid hc
  have hLZ:∀ b,O b→b≠g:=fun b hb e=>by have:=hKO b hb;omega
  have hi0':(i0:Int)<(m.length:Int):=by omega
  have hl':(m.length:Int)≤1048576:=by omega
  have hne1:((i0:Int) == -1)=false:=by rw [beq_eq_false_iff_ne];omega
  have hcap':(m.length:Int)≤(c:Int):=by omega
  clear h hin he hms hml hno HIX hc hcq hfi hsi hb0 hz0
  go_enter Tryz.func71,Tryz.ntmps71
  go_upto_region 5 with (go_at_call 90;refine HIN.out.mono ?_;rintro e w1 ⟨rfl,hf⟩;have HF1:=Lib.hid hf;clear hf)
  go_loopw [5,6] (fun jv iv wr=>∃ (j i:Nat) (kp:List (List UInt8 × JV)),Hid (kp.length=j)∧j<i∧i≤m.length∧jv=.int .i64 j∧iv=.int .i64 i∧Hid (FrX g w1 wr)∧Hid (DfI wr g m kp O i)∧Hid (Bk.woM (m.take i) s=kp)) (fun _ iv _=>m.length - (intOf iv).toNat)
  case atStart=>
   exact ⟨i0,i0+1,m.take i0,Lib.hid (by rw [List.length_take];omega),by omega,by omega,rfl,by go_num,Lib.hid (FrX.refl g w1),Lib.hid (HD0.out w1 HF1.out).next,HK0⟩
  case round=>
   obtain ⟨j,i,kp,hjk,hji,hi,rfl,rfl,hX1,hD,hKp⟩:=hrel
   have hsz:=hX1.out.size
   have hs1:=HF1.out.size
   have hcx:wr.cell? ⟨X,0,none⟩=some (.string ⟨s.toArray⟩):=((hX1.out.cell (by omega) hXg).trans (HF1.out.cell hXw)).trans HC.out
   by_cases hlt:i<m.length
   ·have hlt':(i:Int)<(m.length:Int):=by omega
    have hji':(j:Int)<(m.length:Int):=by omega
    have hji2:j<m.length:=by omega
    obtain ⟨C,f,C',f',hnl,c0,⟨c1,c2,c3,c4,c5⟩,hu⟩:=hD.out.rest i hlt (Nat.le_refl _)
    have hnx:=Bk.wo_take (s:=s) hlt
    obtain ⟨pu,hpu⟩:∃ pu,m[i]=pu:=⟨_,rfl⟩
    rw [hpu] at hnl c0 c1 c2 c3 c4 c5 hu hnx
    obtain ⟨nt,u⟩:=pu
    simp only at hnl c0 c1 c2 c3 c4 c5 hu hnx
    rw [hKp.out] at hnx
    obtain ⟨cb,hcb⟩:∃ cb,decide (nt=s)=cb:=⟨_,rfl⟩
    have HPU:=Lib.hid hpu
    have HNL:=Lib.hid hnl
    have HNX:=Lib.hid hnx
    have HU:=Lib.hid hu
    have HCB:=Lib.hid hcb
    clear hnx hcb hpu hnl hu
    go_upto_region 8 with fail
    have hb8:=Blk.made wr #[.string ⟨nt.toArray⟩,.int .i64 u.kd,.int .i64 u.nm,.string ⟨u.tx.toArray⟩,.slice C u.ls.length f,.slice C' u.ms.length f'] 38
    have hf8:Fr wr (wr.alloc (.cells #[.string ⟨nt.toArray⟩,.int .i64 u.kd,.int .i64 u.nm,.string ⟨u.tx.toArray⟩,.slice C u.ls.length f,.slice C' u.ms.length f'] 38)):=(Fr.refl wr).alloc _
    have hc8:=(hf8.cell (o:=0) (by omega)).trans hcx
    generalize (wr.alloc (.cells #[.string ⟨nt.toArray⟩,.int .i64 u.kd,.int .i64 u.nm,.string ⟨u.tx.toArray⟩,.slice C u.ls.length f,.slice C' u.ms.length f'] 38))=W8 at hb8 hf8 hc8 ⊢
    have hXg8:wr.heap.size≠g:=by omega
    have hX8:X<W8.heap.size:=by have:=hf8.size;omega
    generalize wr.heap.size=X8 at hb8 hXg8 ⊢
    obtain ⟨⟨m0,m1,m2,m3,m4,m5⟩,_⟩:=box6 hb8
    have HB8:=Lib.hid hb8
    have HF8:=Lib.hid hf8
    have HW1:=Lib.hid (wo1_is nt s u C f C' f' X W8 hX8 hc8 cb HCB.out)
    clear hb8 hf8 hc8 c0 c1 c2 c3 c4 c5 hcx
    cases cb
    ·have hns:¬ nt=s:=of_decide_eq_false HCB.out
     rw [if_neg hns] at HNX
     have HNS:=Lib.hid hns
     clear hns
     go_upto_region 9 with (go_at_call 72;refine HW1.out.mono ?_;rintro e w9 ⟨rfl,hf⟩;have hb9:=HB8.out.keep hf;obtain ⟨⟨n0,n1,n2,n3,n4,n5⟩,_⟩:=box6 hb9;have HF9:=Lib.hid (HF8.out.trans hf);clear hf hb9)
     clear m0 m1 m2 m3 m4 m5
     have hd9:=hD.out.keep HF9.out (fun b hb=>by have:=hKO b hb;omega)
     obtain ⟨cur9,hk9,hz9⟩:=hd9.blk
     have q0:=hk9.cell (j*6)
     have q1:=hk9.cell (j*6+1)
     have q2:=hk9.cell (j*6+2)
     have q3:=hk9.cell (j*6+3)
     have q4:=hk9.cell (j*6+4)
     have q5:=hk9.cell (j*6+5)
     rw [Array.getElem?_eq_getElem (by omega)] at q0 q1 q2 q3 q4 q5
     have r0:=hk9.free (j*6)
     have r1:=hk9.free (j*6+1)
     have r2:=hk9.free (j*6+2)
     have r3:=hk9.free (j*6+3)
     have r4:=hk9.free (j*6+4)
     have r5:=hk9.free (j*6+5)
     have hst:=hd9.step hlt hjk.out (by omega) hLZ (fun b hb=>by have:=hKO b hb;have:=HF9.out.size;omega) HPU.out HNL.out (HU.out.map (fun _ h=>h) (fun b q hb=>HF9.out.cell (by have:=hKO b hb;omega)))
     have HST:=Lib.hid hst
     have HFX:=Lib.hid ((hX1.out.fr HF9.out).trans (st6g_frx w9 g (j*6) (.string ⟨nt.toArray⟩) (.int .i64 u.kd) (.int .i64 u.nm) (.string ⟨u.tx.toArray⟩) (.slice C u.ls.length f) (.slice C' u.ms.length f')))
     clear hst hd9 hk9
     go_wp2_with fail
     exact ⟨⟨j+1,i+1,kp++[(nt,u)],Lib.hid (by simp [hjk.out]),by omega,by omega,by go_num,by go_num,HFX,HST,HNX⟩,by simp [intOf];omega⟩
    ·have hns:nt=s:=of_decide_eq_true HCB.out
     rw [if_pos hns,List.append_nil] at HNX
     have HNS:=Lib.hid hns
     clear hns
     go_wp2_with (go_at_call 72;refine HW1.out.mono ?_;rintro e w9 ⟨rfl,hf⟩;have HF9:=Lib.hid (HF8.out.trans hf);clear hf)
     exact ⟨⟨j,i+1,kp,hjk,by omega,by omega,rfl,by go_num,Lib.hid (hX1.out.fr HF9.out),Lib.hid (hD.out.keep HF9.out (fun b hb=>by have:=hKO b hb;omega)).next,HNX⟩,by simp [intOf];omega⟩
   ·obtain rfl:i=m.length:=by omega
    have hkp:Bk.woM m s=kp:=by have:=hKp.out;rwa [List.take_length] at this
    have hjm':(j:Int)≤(m.length:Int):=by omega
    have hjc:(j:Int)≤(c:Int):=by omega
    obtain ⟨cur9,hk9,hz9⟩:=hD.out.blk
    have hcl:∀ ty,(Builtin.clear_ #[23] ty #[.slice (some ⟨g,j*6,none⟩) (m.length - j) (c - j)]).run Tryz.prog wr=.ok (.tuple #[]) (wr.setCells g (j*6) (zs6 (m.length - j))):=fun ty=>run_clear_m wr ty g (j*6) (m.length - j) (c - j) (by omega) (fun t ht=>by rw [hk9.cell,Array.getElem?_eq_getElem (by omega)];rfl) (fun t ht=>hk9.free _)
    have HKP:=Lib.hid hkp
    have HK9:=Lib.hid hk9
    clear hkp hk9
    go_wp2_with fail
    go_ret
    have hfx:=setCells_frx g (zs6 (m.length - j)) (j*6) wr
    have hjk2:=hjk.out
    have hb1:Below K w wr:=Below.trans (HF1.out.mono hK.2) ((hX1.out.below (by omega)).mono hgK)
    refine ⟨⟨_,c,by rw [HKP.out,hjk2];rfl,?_⟩,Below.trans hb1 ((hfx.below (by omega)).mono hgK)⟩
    rw [HKP.out]
    have hout:∀ b o,b≠g→(wr.setCells g (j*6) (zs6 (m.length - j))).cell? ⟨b,o,none⟩=wr.cell? ⟨b,o,none⟩:=fun b o hb=>World.cell?_setCells_out g _ _ _ _ (fun e=>absurd e hb)
    intro k hk
    obtain ⟨C,f,C',f',h0,h1,⟨a0,a1,a2,a3,a4⟩,h3⟩:=hD.out.kept k hk
    have hin:∀ t,t<6→(wr.setCells g (j*6) (zs6 (m.length - j))).cell? ⟨g,k*6+t,none⟩=wr.cell? ⟨g,k*6+t,none⟩:=fun t ht=>World.cell?_setCells_out g _ _ _ _ (fun _ _=>.inl (by show k*6+t<j*6;omega))
    exact ⟨g,0,C,f,C',f',rfl,.inr ⟨hgK,by have:=hfx.size;omega⟩,h0,by rw [Nat.zero_add];exact (hin 0 (by omega)).trans h1,by rw [Nat.zero_add];exact ⟨(hin 1 (by omega)).trans a0,(hin 2 (by omega)).trans a1,(hin 3 (by omega)).trans a2,(hin 4 (by omega)).trans a3,(hin 5 (by omega)).trans a4⟩,h3.map (fun b hb=>.inl hb) (fun b o hb=>hout b o (hLZ b hb))⟩
theorem withoutS_is (v:JV) (B:Option Addr) (d:Nat) (B':Option Addr) (d':Nat) (s:List UInt8) (w:World) (O:Nat→Prop) (hO:∀ b,O b→b<w.heap.size) (h:InV w O v (vA v B d B' d')) (hl:v.ms.length≤1048576):
  Calls Tryz.prog 54 #[.agg #[.int .i64 v.kd,.int .i64 v.nm,.string ⟨v.tx.toArray⟩,.slice B v.ls.length d,.slice B' v.ms.length d'],.string ⟨s.toArray⟩] w fun e w'=>(∃ A c,e=.returned (.agg #[.int .i64 6,.int .i64 0,.string ⟨#[]⟩,.slice none 0 0,.slice A (Bk.woM (if v.kd=6 then v.ms else []) s).length c])∧MsC w' (fun b=>O b∨Be w.heap.size w'.heap.size b) A (Bk.woM (if v.kd=6 then v.ms else []) s))∧Fr w w':=by
 obtain ⟨m,hm⟩:∃ m,(if v.kd=6 then v.ms else [])=m:=⟨_,rfl⟩
 have hml:m.length≤1048576:=by rw [← hm];split;exact hl;simp
 have HTB:Hid (∀ W,Fr w W→Calls Tryz.prog 70 #[.agg #[.int .i64 v.kd,.int .i64 v.nm,.string ⟨v.tx.toArray⟩,.slice B v.ls.length d,.slice B' v.ms.length d']] W fun e w'=>∃ v' K,e=.returned v'∧W.heap.size≤K∧MgS w' O K v' m∧Fr W w'):=Lib.hid (fun W hW=>by rw [← hm];exact tmembersS_is v B d B' d' W O (ltS hO hW) (h.keepS hO hW) (by omega))
 rw [hm]
 have hnl:=h.facts
 clear h hl hm
 go_enter Tryz.func54,Tryz.ntmps54
 go_upto_region 1 with fail
 have hx0:Blk (((w.alloc (.cells #[.int .i64 v.kd,.int .i64 v.nm,.string ⟨v.tx.toArray⟩,.slice B v.ls.length d,.slice B' v.ms.length d'] 25)).alloc (.cells #[.string ⟨s.toArray⟩] 9)).alloc (.cells #[.int .i64 0,.int .i64 0,.string ⟨#[]⟩,.slice none 0 0,.slice none 0 0] 25)) w.heap.size #[.int .i64 v.kd,.int .i64 v.nm,.string ⟨v.tx.toArray⟩,.slice B v.ls.length d,.slice B' v.ms.length d'] 25:=((Blk.made w _ _).keep ((Fr.refl _).alloc _)).keep ((Fr.refl _).alloc _)
 have hs0:Blk (((w.alloc (.cells #[.int .i64 v.kd,.int .i64 v.nm,.string ⟨v.tx.toArray⟩,.slice B v.ls.length d,.slice B' v.ms.length d'] 25)).alloc (.cells #[.string ⟨s.toArray⟩] 9)).alloc (.cells #[.int .i64 0,.int .i64 0,.string ⟨#[]⟩,.slice none 0 0,.slice none 0 0] 25)) (w.heap.size+1) #[.string ⟨s.toArray⟩] 9:=(boxz (Blk.made (w.alloc _) _ _)).keep ((Fr.refl _).alloc _)
 have hy0:Blk (((w.alloc (.cells #[.int .i64 v.kd,.int .i64 v.nm,.string ⟨v.tx.toArray⟩,.slice B v.ls.length d,.slice B' v.ms.length d'] 25)).alloc (.cells #[.string ⟨s.toArray⟩] 9)).alloc (.cells #[.int .i64 0,.int .i64 0,.string ⟨#[]⟩,.slice none 0 0,.slice none 0 0] 25)) (w.heap.size+1+1) #[.int .i64 0,.int .i64 0,.string ⟨#[]⟩,.slice none 0 0,.slice none 0 0] 25:=boxz2 (Blk.made ((w.alloc _).alloc _) _ _)
 have hf0:Fr w (((w.alloc (.cells #[.int .i64 v.kd,.int .i64 v.nm,.string ⟨v.tx.toArray⟩,.slice B v.ls.length d,.slice B' v.ms.length d'] 25)).alloc (.cells #[.string ⟨s.toArray⟩] 9)).alloc (.cells #[.int .i64 0,.int .i64 0,.string ⟨#[]⟩,.slice none 0 0,.slice none 0 0] 25)):=(((Fr.refl w).alloc _).alloc _).alloc _
 generalize (((w.alloc (.cells #[.int .i64 v.kd,.int .i64 v.nm,.string ⟨v.tx.toArray⟩,.slice B v.ls.length d,.slice B' v.ms.length d'] 25)).alloc (.cells #[.string ⟨s.toArray⟩] 9)).alloc (.cells #[.int .i64 0,.int .i64 0,.string ⟨#[]⟩,.slice none 0 0,.slice none 0 0] 25))=W1 at hx0 hs0 hy0 hf0 ⊢
 have HXS:Hid (w.heap.size≤w.heap.size+1∧w.heap.size+1<w.heap.size+1+1∧w.heap.size+1+1<W1.heap.size):=Lib.hid ⟨by omega,by omega,hy0.lt⟩
 generalize w.heap.size+1+1=X3 at hy0 HXS ⊢
 generalize w.heap.size+1=X2 at hs0 HXS ⊢
 obtain ⟨X1,hX1⟩:∃ X,w.heap.size=X:=⟨_,rfl⟩
 rw [hX1] at hx0 ⊢
 clear hX1
 obtain ⟨⟨y0,y1,y2,y3,y4⟩,_⟩:=box5 hx0
 have HY0:=Lib.hid hy0
 have HS0:=Lib.hid hs0
 have HF0:=Lib.hid hf0
 clear hx0 hy0 hf0 hs0
 go_wp2_with (first
  | (go_at_call 71;refine (delMS_is m _ _ X2 s _ O _ HM2.out hml (by have:=HXS.out;have:=HKK.out;omega) ((HS0.out.keep HF2.out).cell 0)).mono ?_;rintro e w3 ⟨⟨A3,c3,rfl,hm3⟩,hb3⟩;have hy3:Blk w3 X3 #[.int .i64 0,.int .i64 0,.string ⟨#[]⟩,.slice none 0 0,.slice none 0 0] 25:=(Below.block hb3 X3 (by have:=HXS.out;have:=HKK.out;omega)).trans (HY0.out.keep HF2.out);obtain ⟨⟨x0,x1,x2,x3,x4⟩,xf0,xf1,xf2,xf3,xf4⟩:=box5 hy3;have HY3:=Lib.hid hy3;have HM3:=Lib.hid hm3;have HF3:Hid (Fr w w3):=Lib.hid (Below.trans (HF0.out.trans HF2.out) (hb3.mono (by have:=HXS.out;have:=HKK.out;omega)));clear hm3 hb3 hy3)
  | (go_at_call 70;refine (HTB.out _ HF0.out).mono ?_;rintro e w2 ⟨v2,K2,rfl,hK,hm2,hf⟩;obtain ⟨A2,c2,rfl⟩:=hm2.is_slice;have HM2:=Lib.hid hm2;have HKK:=Lib.hid hK;have HF2:=Lib.hid hf;clear hm2 hK hf))
 refine bodyPost_ret (results_cv (by rfl) rfl _ X3 (by rfl) _ _ _ _ _ (set5 HY3.out)) rfl ?_
 have hXS:=HXS.out
 have hKK:=HKK.out
 have hlt3:=HY3.out.lt
 refine ⟨⟨A3,c3,rfl,?_⟩,st5_fr HF3.out (by omega) _ _ _ _ _⟩
 have hfx:=st5_frx w3 X3 (.int .i64 6) (.int .i64 0) (.string ⟨#[]⟩) (.slice none 0 0) (.slice A3 (Bk.woM m s).length c3)
 have hszz:=hfx.size
 exact HM3.out.map (fun b hb=>by rcases hb with hb | hb;exact .inl hb;exact .inr ⟨by have:=hb.1;omega,Nat.lt_of_lt_of_le hb.2 hszz⟩) (fun b o hb=>hfx.cell (by have:=HF3.out.size;rcases hb with hb | hb;have:=hO b hb;omega;exact hb.2) (by rcases hb with hb | hb;have:=hO b hb;omega;have:=hb.1;omega))
def OpS (B:Nat→Prop) (w:World):Option JV→Ending→World→Prop
 | none,e,w'=>e=.returned (.tuple #[.agg #[.int .i64 0,.int .i64 0,.string ⟨#[]⟩,.slice none 0 0,.slice none 0 0],.bool false])∧Fr w w'
 | some y,e,w'=>∃ (C:Option Addr) (f:Nat) (C':Option Addr) (f':Nat),e=.returned (.tuple #[.agg #[.int .i64 y.kd,.int .i64 y.nm,.string ⟨y.tx.toArray⟩,.slice C y.ls.length f,.slice C' y.ms.length f'],.bool true])∧InV w' B y (vA y C f C' f')∧Fr w w'

theorem getS_is (v:JV) (B:Option Addr) (d:Nat) (B':Option Addr) (d':Nat) (s:List UInt8) (w:World) (O:Nat→Prop) (hO:∀ b,O b→b<w.heap.size) (h:InV w O v (vA v B d B' d')):
  Calls Tryz.prog 52 #[.agg #[.int .i64 v.kd,.int .i64 v.nm,.string ⟨v.tx.toArray⟩,.slice B v.ls.length d,.slice B' v.ms.length d'],.string ⟨s.toArray⟩] w (OpS O w (Pt.get v s)):=by
 have H:=Lib.hid h
 obtain ⟨A,c,A',c',he,_,hms⟩:=h.open_
 have hA:B'=A':=by obtain ⟨_,_,_,_,e4⟩:=five he;injection e4
 subst hA
 have hM:=h.facts.2.2.2.2
 have HMS:=Lib.hid hms
 have hM':(v.ms.length:Int)≤140737488355328:=by omega
 have HC:Hid (∀ W,Fr w W→Calls Tryz.prog 69 #[.agg #[.int .i64 v.kd,.int .i64 v.nm,.string ⟨v.tx.toArray⟩,.slice B v.ls.length d,.slice B' v.ms.length d'],.string ⟨s.toArray⟩] W fun e w'=>e=.returned (.int .i64 (Pt.placeI v s))∧Fr W w'):=Lib.hid (fun W hW=>place_is v B d B' d' s W ((H.out.keepS hO hW).more (ltS hO hW)))
 clear h he hms
 obtain ⟨r,hr⟩:∃ r,Pt.placeI v s=r:=⟨_,rfl⟩
 rw [hr] at HC
 have hget:(r = -1∧Pt.get v s=none) ∨ ∃ i:Nat,r=(i:Nat) ∧ ∃ hi:i<v.ms.length,Pt.get v s=some v.ms[i].2:=by
  rw [← hr]
  unfold Pt.placeI Pt.get
  split
  ·have hp:=@Pt.placeM_get v.ms s
   cases hq:Pt.placeM v.ms s with
   | none=>exact .inl ⟨rfl,hp.1 hq⟩
   | some i=>exact .inr ⟨i,rfl,hp.2 i hq⟩
  ·exact .inl ⟨rfl,rfl⟩
 clear hr
 rcases hget with ⟨rfl,hg⟩ | ⟨i,rfl,hi,hg⟩
 ·rw [hg]
  clear hg
  go_enter Tryz.func52,Tryz.ntmps52
  go_wp2_with (go_at_call 69;refine (HC.out _ (((Fr.refl w).alloc _).alloc _)).mono ?_;rintro e w1 ⟨rfl,hf⟩;have hb:=(boxz (Blk.made (w.alloc (.cells #[.int .i64 v.kd,.int .i64 v.nm,.string ⟨v.tx.toArray⟩,.slice B v.ls.length d,.slice B' v.ms.length d'] 25)) #[.int .i64 0,.int .i64 0,.string ⟨#[]⟩,.slice none 0 0,.slice none 0 0] 25)).keep hf;obtain ⟨⟨x0,x1,x2,x3,x4⟩,g0,g1,g2,g3,g4⟩:=box5 hb;have HB1:=Lib.hid hb;have HF1:=Lib.hid ((((Fr.refl w).alloc (.cells #[.int .i64 v.kd,.int .i64 v.nm,.string ⟨v.tx.toArray⟩,.slice B v.ls.length d,.slice B' v.ms.length d'] 25)).alloc (.cells #[.int .i64 0,.int .i64 0,.string ⟨#[]⟩,.slice none 0 0,.slice none 0 0] 25)).trans hf);clear hf hb)
  refine bodyPost_ret (results_cs (by rfl) rfl _ (w.heap.size+1) (by rfl) (by rfl) _ _ _ _ _ (set5 HB1.out)) rfl ?_
  have hX:∀ j,w.heap.size≤(Addr.mk (w.heap.size+1) j none).block:=fun j=>Nat.le_succ _
  exact ⟨rfl,((((HF1.out.setCell (hX 0) _).setCell (hX 1) _).setCell (hX 2) _).setCell (hX 3) _).setCell (hX 4) _⟩
 ·rw [hg]
  have hi':(i:Int)<(v.ms.length:Int):=by omega
  clear hg
  obtain ⟨b,o,C,e,C',e',rfl,hb,hnl,c0,⟨c1,c2,c3,c4,c5⟩,hv⟩:=HMS.out i hi
  obtain ⟨u,hu⟩:∃ u,v.ms[i].2=u:=⟨_,rfl⟩
  rw [hu] at c1 c2 c3 c4 c5 hv ⊢
  have HV:=Lib.hid hv
  have HBB:Hid (b<w.heap.size):=hO b hb
  have HC5:Hid (w.cell? ⟨b,o+i*6+1,none⟩=some (.int .i64 u.kd)∧w.cell? ⟨b,o+i*6+1+1,none⟩=some (.int .i64 u.nm)∧w.cell? ⟨b,o+i*6+1+2,none⟩=some (.string ⟨u.tx.toArray⟩)∧w.cell? ⟨b,o+i*6+1+3,none⟩=some (.slice C u.ls.length e)∧w.cell? ⟨b,o+i*6+1+4,none⟩=some (.slice C' u.ms.length e')):=⟨c1,c2,c3,c4,c5⟩
  clear hv hu c0 c1 c2 c3 c4 c5
  go_enter Tryz.func52,Tryz.ntmps52
  go_wp2_with (go_at_call 69;refine (HC.out _ (((Fr.refl w).alloc _).alloc _)).mono ?_;rintro e w1 ⟨rfl,hf⟩;have hb:=(boxz (Blk.made (w.alloc (.cells #[.int .i64 v.kd,.int .i64 v.nm,.string ⟨v.tx.toArray⟩,.slice B v.ls.length d,.slice (some ⟨b,o,none⟩) v.ms.length d'] 25)) #[.int .i64 0,.int .i64 0,.string ⟨#[]⟩,.slice none 0 0,.slice none 0 0] 25)).keep hf;obtain ⟨⟨x0,x1,x2,x3,x4⟩,g0,g1,g2,g3,g4⟩:=box5 hb;have hb2:=((Blk.made w #[.int .i64 v.kd,.int .i64 v.nm,.string ⟨v.tx.toArray⟩,.slice B v.ls.length d,.slice (some ⟨b,o,none⟩) v.ms.length d'] 25).keep ((Fr.refl _).alloc _)).keep hf;obtain ⟨⟨y0,y1,y2,y3,y4⟩,_⟩:=box5 hb2;have HB1:=Lib.hid hb;have hf1:=(((Fr.refl w).alloc (.cells #[.int .i64 v.kd,.int .i64 v.nm,.string ⟨v.tx.toArray⟩,.slice B v.ls.length d,.slice (some ⟨b,o,none⟩) v.ms.length d'] 25)).alloc (.cells #[.int .i64 0,.int .i64 0,.string ⟨#[]⟩,.slice none 0 0,.slice none 0 0] 25)).trans hf;obtain ⟨c1,c2,c3,c4,c5⟩:=HC5.out;have e1:=(hf1.cell HBB.out).trans c1;have e2:=(hf1.cell HBB.out).trans c2;have e3:=(hf1.cell HBB.out).trans c3;have e4:=(hf1.cell HBB.out).trans c4;have e5:=(hf1.cell HBB.out).trans c5;have HF1:=Lib.hid hf1;clear hf hb hb2 hf1 c1 c2 c3 c4 c5)
  refine bodyPost_ret (results_cs (by rfl) rfl _ (w.heap.size+1) (by rfl) (by rfl) _ _ _ _ _ (set5 HB1.out)) rfl ?_
  have hX:∀ j,w.heap.size≤(Addr.mk (w.heap.size+1) j none).block:=fun j=>Nat.le_succ _
  have hfin:=((((HF1.out.setCell (hX 0) (.int .i64 u.kd)).setCell (hX 1) (.int .i64 u.nm)).setCell (hX 2) (.string ⟨u.tx.toArray⟩)).setCell (hX 3) (.slice C u.ls.length e)).setCell (hX 4) (.slice C' u.ms.length e')
  exact ⟨C,e,C',e',rfl,HV.out.keepS hO hfin,hfin⟩
end Go.Proofs.YtlmcfhokfiibkaaGreatDoor
