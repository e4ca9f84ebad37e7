/- The walks of the reader's next, is, peek, wrong. -/
import Derived.Test.YtdhakbghdcfncaaGreatDoorKa
import Derived.Test.YtdhakbghdcfncaaGreatDoorPb
import Derived.Test.YtdhakbghdcfncaaGreatDoorEe
namespace Go.Proofs.YtdhakbghdcfncaaGreatDoor
set_option maxRecDepth 100000
set_option maxHeartbeats 800000
set_option linter.unusedVariables false
set_option linter.unusedSimpArgs false
open Go.RowKit

def tkA (t:Scn.Tok):Value:=.agg #[.int .i64 (t.kind:Nat),.int .i64 t.n,.string ⟨t.s.toArray⟩,.int .i64 (t.at_:Nat)]
def TV (w:World) (R:Nat) (A:Option Addr) (ts:List Scn.Tok):Prop:=ts≠[] → ∃ g o,A=some ⟨g,o,none⟩∧g<R ∧ ∀ i (h:i<ts.length),w.cell? ⟨g,o+i*4,none⟩=some (.int .i64 (ts[i].kind:Nat))∧w.cell? ⟨g,o+i*4+1,none⟩=some (.int .i64 ts[i].n)∧w.cell? ⟨g,o+i*4+2,none⟩=some (.string ⟨ts[i].s.toArray⟩)∧w.cell? ⟨g,o+i*4+3,none⟩=some (.int .i64 (ts[i].at_:Nat))
structure Rdr (w:World) (R e:Nat) (ts:List Scn.Tok) (p:Nat):Prop where
 lt:R<w.heap.size
 c0:∃ A c,w.cell? ⟨R,0,none⟩=some (.slice A ts.length c)∧ts.length≤c∧TV w R A ts
 c1:w.cell? ⟨R,1,none⟩=some (.int .i64 (e:Nat))
 c2:w.cell? ⟨R,2,none⟩=some (.int .i64 (p:Nat))
 fz:∀ j,w.frozen? ⟨R,j,none⟩=false
theorem TV.blw {w w':World} {R:Nat} {A:Option Addr} {ts:List Scn.Tok} (h:TV w R A ts) (hb:Below R w w'):TV w' R A ts:=by
 intro hne
 obtain ⟨g,o,rfl,hg,hc⟩:=h hne
 refine ⟨g,o,rfl,hg,fun i hi=>?_⟩
 have e:∀ j,w'.cell? ⟨g,j,none⟩=w.cell? ⟨g,j,none⟩:=fun j=>Below.cell hb (p:=⟨g,j,none⟩) hg
 simp only [e]
 exact hc i hi
theorem TV.tail {w:World} {R g o:Nat} {t:Scn.Tok} {ts:List Scn.Tok} (h:TV w R (some ⟨g,o,none⟩) (t::ts)):TV w R (some ⟨g,o+4,none⟩) ts:=by
 intro hne
 obtain ⟨g',o',he,hg,hc⟩:=h (by simp)
 simp only [Option.some.injEq,Addr.mk.injEq,and_true] at he
 obtain ⟨rfl,rfl⟩:=he
 refine ⟨g,o+4,rfl,hg,fun i hi=>?_⟩
 have:=hc (i+1) (by simpa using hi)
 rw [show o+(i+1)*4=o+4+i*4 by omega] at this
 simpa using this
theorem Rdr.keep {w w':World} {R e:Nat} {ts:List Scn.Tok} {p:Nat} (h:Rdr w R e ts p) (hf:Fr w w'):Rdr w' R e ts p:=by
 obtain ⟨A,c,h1,h2,h3⟩:=h.c0
 exact ⟨Nat.lt_of_lt_of_le h.lt hf.size,⟨A,c,by rw [hf.cell h.lt];exact h1,h2,h3.blw (Below.mono hf (Nat.le_of_lt h.lt))⟩,by rw [hf.cell h.lt];exact h.c1,by rw [hf.cell h.lt];exact h.c2,fun j=>by rw [hf.frozen h.lt];exact h.fz j⟩

theorem Rdr.set {w:World} {R e:Nat} {ts ts':List Scn.Tok} {p:Nat} (h:Rdr w R e ts p) {A:Option Addr} {c:Nat} (hc:ts'.length≤c) (hv:TV w R A ts'):
  Rdr (w.setCell ⟨R,0,none⟩ (.slice A ts'.length c)) R e ts' p:=by
 obtain ⟨A0,k,h0,_,_⟩:=h.c0
 have hb:Below R w (w.setCell ⟨R,0,none⟩ (.slice A ts'.length c)):=Below.setCell (p:=⟨R,0,none⟩) (Below.refl _ _) (Nat.le_refl R) _
 refine ⟨by simpa [World.setCell] using h.lt,⟨A,c,World.cell?_setCell_same _ _ _ h0,hc,hv.blw hb⟩,?_,?_,fun j=>by rw [World.frozen?_setCell];exact h.fz j⟩
 ·rw [World.cell?_setCell_other _ _ _ _ (by intro e;injection e with _ e2;cases e2)];exact h.c1
 ·rw [World.cell?_setCell_other _ _ _ _ (by intro e;injection e with _ e2;cases e2)];exact h.c2
theorem Rdr.set2 {w:World} {R e:Nat} {ts ts':List Scn.Tok} {p:Nat} (h:Rdr w R e ts p) {A:Option Addr} {c:Nat} (hc:ts'.length≤c) (hv:TV w R A ts') (o1 o2:Obj):
  Rdr (((w.setCell ⟨R,0,none⟩ (.slice A ts'.length c)).alloc o1).alloc o2) R e ts' p∧FrX R w (((w.setCell ⟨R,0,none⟩ (.slice A ts'.length c)).alloc o1).alloc o2):=
 ⟨((h.set hc hv).keep ((Fr.refl _).alloc _)).keep ((Fr.refl _).alloc _),(((FrX.refl R w).setCell rfl _).alloc _).alloc _⟩
theorem made2 (w:World) (a:Addr) (v:Value) (c c2:Array Value) (t t2:TypeId):(((w.setCell a v).alloc (.cells c t)).alloc (.cells c2 t2)).heap[w.heap.size]? = some (.cells c t (0,0)):=by
 have e:(w.setCell a v).heap.size=w.heap.size:=by simp [World.setCell]
 rw [Below.heap_alloc _ _ _ (by simp [World.setCell]),← e,heap_made]

theorem is_is (t:Scn.Tok) (c:UInt8) (w:World) (b:Bool) (hb:Rd.isM t c=b):
  Calls Tryz.prog 70 #[tkA t,.string ⟨[c].toArray⟩] w fun e w'=>e=.returned (.bool b)∧Fr w w':=by
 subst hb
 have e1:(((t.kind:Nat):Int) == 1)=(t.kind == 1):=by
  rw [Bool.eq_iff_iff,beq_iff_eq,beq_iff_eq];omega
 have e2:((⟨t.s.toArray⟩:ByteArray).toList == (⟨[c].toArray⟩:ByteArray).toList)=(t.s == [c]):=by
  rw [ByteArray.toList_eq,ByteArray.toList_eq]
 unfold Rd.isM
 obtain ⟨k,hk⟩:∃ k,(t.kind == 1)=k:=⟨_,rfl⟩
 obtain ⟨q,hq⟩:∃ q,(t.s == [c])=q:=⟨_,rfl⟩
 rw [hk,hq]
 rw [hk] at e1
 rw [hq] at e2
 clear hk
 unfold tkA
 rcases k with _ | _
 ·go_enter Tryz.func70,Tryz.ntmps70
  go_wp2_with fail
  go_ret
  exact ⟨rfl,(Fr.refl w).alloc _⟩
 ·rcases q with _ | _
  all_goals
   go_enter Tryz.func70,Tryz.ntmps70
   go_wp2_with fail
   go_ret
   exact ⟨rfl,(Fr.refl w).alloc _⟩

theorem next_is (R e:Nat) (ts:List Scn.Tok) (p:Nat) (w:World) (h:Rdr w R e ts p):
  Calls Tryz.prog 47 #[.pointer (some ⟨R,0,none⟩)] w fun x w'=>x=.returned (tkA (Rd.next e ts))∧Rdr w' R e ts.tail p∧FrX R w w':=by
 obtain ⟨A,c,c0,hc,hv⟩:=h.c0
 have c1:=h.c1
 have hlt:=h.lt
 have f0:=h.fz 0
 have HR:=Lib.hid h
 cases ts with
 | nil=>
  clear h
  go_enter Tryz.func47,Tryz.ntmps47
  go_wp2_with fail
  refine bodyPost_ret (results_cell_row (by rfl) _ _ w.heap.size 88 _ (0,0) _ (by rfl) (heap_made _ _ _) Tryz.underlying88 rfl (by kernel_rfl)) rfl ?_
  exact ⟨rfl,HR.out.keep ((Fr.refl w).alloc _),(FrX.refl R w).alloc _⟩
 | cons t ts=>
  obtain ⟨g,o,rfl,hg,hcell⟩:=hv (by simp)
  obtain ⟨t0,t1,t2,t3⟩:=hcell 0 (by simp)
  simp only [Nat.zero_mul,Nat.add_zero,List.getElem_cons_zero] at t0 t1 t2 t3
  simp only [List.length_cons] at c0 hc
  have HV:=Lib.hid hv
  have hgw:g<w.heap.size:=by omega
  have hz:((ts.length:Int)+1 == 0)=false:=by rw [beq_eq_false_iff_ne];omega
  clear h hv hcell
  go_enter Tryz.func47,Tryz.ntmps47
  go_wp2_with fail
  ·have hn:ts=[]:=List.eq_nil_of_length_eq_zero (by omega)
   have hm:=made2 w ⟨R,0,none⟩ (.slice (some ⟨g,o,none⟩) ts.length 0) #[.int .i64 (t.kind:Nat),.int .i64 t.n,.string ⟨t.s.toArray⟩,.int .i64 (t.at_:Nat)] #[.int .i64 (t.kind:Nat),.int .i64 t.n,.string ⟨t.s.toArray⟩,.int .i64 (t.at_:Nat)] 88 88
   have hr:=HR.out.set2 (ts':=ts) (A:=some ⟨g,o,none⟩) (c:=0) (by omega) (fun h=>absurd hn h) (.cells #[.int .i64 (t.kind:Nat),.int .i64 t.n,.string ⟨t.s.toArray⟩,.int .i64 (t.at_:Nat)] 88) (.cells #[.int .i64 (t.kind:Nat),.int .i64 t.n,.string ⟨t.s.toArray⟩,.int .i64 (t.at_:Nat)] 88)
   refine bodyPost_ret (results_cell_row (by rfl) _ _ w.heap.size 88 _ (0,0) _ (by rfl) hm Tryz.underlying88 rfl (by kernel_rfl)) rfl ?_
   exact ⟨rfl,hr⟩
  ·have hm:=made2 w ⟨R,0,none⟩ (.slice (some ⟨g,o+4,none⟩) ts.length (c - 1)) #[.int .i64 (t.kind:Nat),.int .i64 t.n,.string ⟨t.s.toArray⟩,.int .i64 (t.at_:Nat)] #[.int .i64 (t.kind:Nat),.int .i64 t.n,.string ⟨t.s.toArray⟩,.int .i64 (t.at_:Nat)] 88 88
   have hr:=HR.out.set2 (c:=c - 1) (by omega) HV.out.tail (.cells #[.int .i64 (t.kind:Nat),.int .i64 t.n,.string ⟨t.s.toArray⟩,.int .i64 (t.at_:Nat)] 88) (.cells #[.int .i64 (t.kind:Nat),.int .i64 t.n,.string ⟨t.s.toArray⟩,.int .i64 (t.at_:Nat)] 88)
   refine bodyPost_ret (results_cell_row (by rfl) _ _ w.heap.size 88 _ (0,0) _ (by rfl) hm Tryz.underlying88 rfl (by kernel_rfl)) rfl ?_
   exact ⟨rfl,hr⟩
/- The walks of the reader's peek, wrong. -/

def faultV (a c:Nat):Value:=.iface 81 (.agg #[.int .i64 (a:Nat),.int .i64 (c:Nat)])
theorem wrong_is (t:Scn.Tok) (c:Nat) (w:World):
  Calls Tryz.prog 48 #[tkA t,.int .i64 (c:Nat)] w fun e w'=>e=.panicked [{ v:=faultV t.at_ c,recovered:=false }]∧Fr w w':=by
 unfold tkA
 go_enter Tryz.func48,Tryz.ntmps48
 go_wp2_with fail
 first
  | exact ⟨rfl,rfl,(Fr.refl w).alloc _⟩
  | (refine ⟨rfl,?_⟩;exact ⟨rfl,(Fr.refl w).alloc _⟩)
  | (simp [bodyPost,faultV];exact (Fr.refl w).alloc _)

theorem peek_is (R e:Nat) (ts:List Scn.Tok) (p:Nat) (c:UInt8) (b:Bool) (w:World) (h:Rdr w R e ts p) (hb:Rd.isM (Rd.next e ts) c=b):
  Calls Tryz.prog 92 #[.pointer (some ⟨R,0,none⟩),.string ⟨[c].toArray⟩] w fun x w'=>x=.returned (.bool b)∧Fr w w':=by
 obtain ⟨A,k,c0,hk,hv⟩:=h.c0
 cases ts with
 | nil=>
  obtain rfl:b=false:=by rw [← hb];rfl
  clear h hv hb
  go_enter Tryz.func92,Tryz.ntmps92
  go_wp2_with fail
  go_ret
  exact ⟨rfl,Fr.refl w⟩
 | cons t ts=>
  obtain ⟨g,o,rfl,hg,hcell⟩:=hv (by simp)
  obtain ⟨t0,t1,t2,t3⟩:=hcell 0 (by simp)
  simp only [Nat.zero_mul,Nat.add_zero,List.getElem_cons_zero] at t0 t1 t2 t3
  simp only [List.length_cons] at c0 hk
  have HB:=Lib.hid hb
  have hz:decide ((0:Int)<(ts.length:Int)+1)=true:=decide_eq_true (by omega)
  clear h hv hcell hb
  go_enter Tryz.func92,Tryz.ntmps92
  go_wp2_with (go_at_call 70;refine (is_is t c _ b HB.out).mono ?_;rintro e w1 ⟨rfl,hf⟩;have HF:=Lib.hid hf;clear hf)
  go_ret
  exact ⟨rfl,HF.out⟩
/- The walk of the reader's value: what is no list and no map. -/

def Sft (w:World) (A:Option Addr):Prop:=∀ b o,A=some ⟨b,o,none⟩ → ∀ j,w.frozen? ⟨b,j,none⟩=false
def TopF (w:World) (x:Value):Prop:=∃ (k n s:Value) (A:Option Addr) (l c:Nat) (A':Option Addr) (m c':Nat),x=.agg #[k,n,s,.slice A l c,.slice A' m c']∧Sft w A∧Sft w A'
theorem Sft.none_ (w:World):Sft w none:=fun _ _ h=>by cases h
theorem TopF.none_ (w:World) (k n s:Value):TopF w (.agg #[k,n,s,.slice none 0 0,.slice none 0 0]):=⟨k,n,s,none,0,0,none,0,0,rfl,Sft.none_ w,Sft.none_ w⟩
theorem sft_own {w:World} {base:Nat} {e:TypeId} {size:Nat} {A:Option Addr} {n c k:Nat} {xs:List Value} (h:w.ownsRow base e size (.slice A n c) k xs):Sft w A:=by
 rintro b o rfl j
 rcases h.2 with ⟨h1,_⟩ | ⟨g,cap,cur,h1,_,hg,_⟩
 ·cases h1
 ·simp only [Value.slice.injEq,Option.some.injEq,Addr.mk.injEq] at h1
  obtain ⟨⟨rfl,rfl,_⟩,rfl,rfl⟩:=h1
  unfold World.frozen?;rw [hg];simp
theorem Sft.set {w:World} {A:Option Addr} (h:Sft w A) (p:Addr) (u:Value):Sft (w.setCell p u) A:=fun b o e j=>by rw [World.frozen?_setCell];exact h b o e j
theorem TopF.set {w:World} {x:Value} (h:TopF w x) (p:Addr) (u:Value):TopF (w.setCell p u) x:=by
 obtain ⟨k,n,s,A,l,c,A',m,c',e,h1,h2⟩:=h
 exact ⟨k,n,s,A,l,c,A',m,c',e,h1.set p u,h2.set p u⟩
def ValP (R e:Nat) (w:World):Rd.R→Ending→World→Prop
 | .out,_,_=>False
 | .bad a c,x,w'=>x=.panicked [{ v:=faultV a c,recovered:=false }]∧FrX R w w'
 | .ok v l p,x,w'=>∃ val,x=.returned val∧(InV w' (Be w.heap.size w'.heap.size) v val∧TopF w' val)∧Rdr w' R e l p∧FrX R w w'
theorem FrX.setNew {C:Nat} {a w:World} (h:FrX C a w) {p:Addr} (hp:a.heap.size≤p.block) (u:Value):FrX C a (w.setCell p u):=by
 have h':a.grownBy w (some C):=h
 have hs:=h.size
 exact ⟨h'.os,h'.tape,h'.output,(by show a.heap.size≤(w.setCell p u).heap.size;simp [World.setCell];exact hs),fun k hk hne=>(Below.heap_setCell _ _ _ _ (by omega)).trans (h'.block k hk hne)⟩
theorem Rdr.keepB {w w':World} {R e:Nat} {ts:List Scn.Tok} {p:Nat} (h:Rdr w R e ts p) (hb:Below (R+1) w w'):Rdr w' R e ts p:=by
 obtain ⟨A,c,h1,h2,h3⟩:=h.c0
 have ec:∀ j,w'.cell? ⟨R,j,none⟩=w.cell? ⟨R,j,none⟩:=fun j=>Below.cell hb (p:=⟨R,j,none⟩) (Nat.lt_succ_self R)
 have ef:∀ j,w'.frozen? ⟨R,j,none⟩=w.frozen? ⟨R,j,none⟩:=fun j=>Below.frozen hb (p:=⟨R,j,none⟩) (Nat.lt_succ_self R)
 exact ⟨Nat.lt_of_lt_of_le h.lt (Below.size hb),⟨A,c,by rw [ec];exact h1,h2,h3.blw (Below.mono hb (Nat.le_succ R))⟩,by rw [ec];exact h.c1,by rw [ec];exact h.c2,fun j=>by rw [ef];exact h.fz j⟩
theorem Rdr.setY {w:World} {R e:Nat} {ts:List Scn.Tok} {p:Nat} (h:Rdr w R e ts p) {a:Addr} (ha:R<a.block) (u:Value):Rdr (w.setCell a u) R e ts p:=h.keepB (Below.setCell (Below.refl _ _) ha u)
theorem Rdr.more {w:World} {R e:Nat} {ts:List Scn.Tok} {p:Nat} (h:Rdr w R e ts p) {z:Int} (hz:z=((p+1:Nat):Int)):Rdr (w.setCell ⟨R,2,none⟩ (.int .i64 z)) R e ts (p+1):=by
 subst hz
 obtain ⟨A,c,h1,h2,h3⟩:=h.c0
 have hb:Below R w (w.setCell ⟨R,2,none⟩ (.int .i64 ((p+1:Nat):Int))):=Below.setCell (p:=⟨R,2,none⟩) (Below.refl _ _) (Nat.le_refl R) _
 refine ⟨by simpa [World.setCell] using h.lt,⟨A,c,?_,h2,h3.blw hb⟩,?_,World.cell?_setCell_same _ _ _ h.c2,fun j=>by rw [World.frozen?_setCell];exact h.fz j⟩
 ·rw [World.cell?_setCell_other _ _ _ _ (by intro e;injection e with _ e2;cases e2)];exact h1
 ·rw [World.cell?_setCell_other _ _ _ _ (by intro e;injection e with _ e2;cases e2)];exact h.c1
theorem set5 {W:World} {Y:Nat} {a b c d e v0 v1 v2 v3 v4:Value} {t:TypeId} (h:W.heap[Y]? = some (.cells #[a,b,c,d,e] t (0,0))):
  (((((W.setCell ⟨Y,0,none⟩ v0).setCell ⟨Y,1,none⟩ v1).setCell ⟨Y,2,none⟩ v2).setCell ⟨Y,3,none⟩ v3).setCell ⟨Y,4,none⟩ v4).heap[Y]? = some (.cells #[v0,v1,v2,v3,v4] t (0,0)):=by
 simp [World.setCell,Array.getElem?_modify,h]
def TokOk (t:Scn.Tok):Prop:=t.s.length≤140737488355328 ∧ -9223372036854775808≤t.n∧t.n≤9223372036854775807

def TB (w:World) (X:Nat) (t:Scn.Tok):Prop:=
 X<w.heap.size∧w.cell? ⟨X,0,none⟩=some (.int .i64 (t.kind:Nat))∧w.cell? ⟨X,1,none⟩=some (.int .i64 t.n)∧w.cell? ⟨X,2,none⟩=some (.string ⟨t.s.toArray⟩)∧w.cell? ⟨X,3,none⟩=some (.int .i64 (t.at_:Nat))
theorem TB.made (w:World) (t:Scn.Tok):TB (w.alloc (.cells #[.int .i64 (t.kind:Nat),.int .i64 t.n,.string ⟨t.s.toArray⟩,.int .i64 (t.at_:Nat)] 88)) w.heap.size t:=by
 refine ⟨by simp,?_,?_,?_,?_⟩ <;> (rw [World.cell?_alloc_at _ _ _ _ rfl];rfl)
theorem TB.keep {w w':World} {X:Nat} {t:Scn.Tok} (h:TB w X t) (hf:Fr w w'):TB w' X t:=by
 obtain ⟨h0,h1,h2,h3,h4⟩:=h
 exact ⟨Nat.lt_of_lt_of_le h0 hf.size,(hf.cell h0).trans h1,(hf.cell h0).trans h2,(hf.cell h0).trans h3,(hf.cell h0).trans h4⟩
theorem wrong_at (t:Scn.Tok) (c:Nat) (z:Int) (hz:z=((c:Nat):Int)) (w:World):
  Calls Tryz.prog 48 #[tkA t,.int .i64 z] w fun e w'=>e=.panicked [{ v:=faultV t.at_ c,recovered:=false }]∧Fr w w':=by
 subst hz;exact wrong_is t c w

theorem value_bad (f R e:Nat) (t:Scn.Tok) (l:List Scn.Tok) (d p:Nat) (w:World) (h:Rdr w R e l p) (hb:Rd.leaf t=none∧Rd.isM t 91=false∧Rd.isM t 123=false):
  Calls Tryz.prog 46 #[.pointer (some ⟨R,0,none⟩),tkA t,.int .i64 (d:Nat)] w (ValP R e w (Rd.rdV (f+1) e t l d p)):=by
 rw [Rd.rdV_succ,if_pos hb]
 obtain ⟨h1,h2,h3⟩:=hb
 have H2:=Lib.hid h2
 have H3:=Lib.hid h3
 have k4:t.kind≠4:=by intro hk;simp [Rd.leaf,hk] at h1
 have k3:t.kind≠3:=by intro hk;simp [Rd.leaf,hk] at h1
 have k2:t.kind≠2:=by
  intro hk
  unfold Rd.leaf at h1
  rw [if_neg k4,if_neg k3,if_pos hk] at h1
  split at h1
  ·cases h1
  split at h1
  ·cases h1
  ·cases h1
 have q4:(((t.kind:Nat):Int) == 4)=false:=by rw [beq_eq_false_iff_ne];omega
 have q3:(((t.kind:Nat):Int) == 3)=false:=by rw [beq_eq_false_iff_ne];omega
 have q2:(((t.kind:Nat):Int) == 2)=false:=by rw [beq_eq_false_iff_ne];omega
 clear h1 h2 h3 k4 k3 k2 h
 have HT:Hid (tkA t=.agg #[.int .i64 (t.kind:Nat),.int .i64 t.n,.string ⟨t.s.toArray⟩,.int .i64 (t.at_:Nat)]):=rfl
 rw [HT.out]
 go_enter Tryz.func46,Tryz.ntmps46
 go_wp2_with (first
  | (go_at_call 48;have hm:=HF2.out;refine (wrong_at t 50 50 rfl _).mono ?_;rintro x w3 ⟨rfl,hf⟩;have HF3:=Lib.hid (hm.trans hf);clear hf hm)
  | (go_at_call 70;have hm:=HF1.out;refine (is_is t 123 _ false H3.out).mono ?_;rintro x w2 ⟨rfl,hf⟩;have hx:=HX1.out.keep hf;obtain ⟨_,y0,y1,y2,y3⟩:=hx;have HF2:=Lib.hid (hm.trans hf);clear hf hm)
  | (go_at_call 70;refine (is_is t 91 _ false H2.out).mono ?_;rintro x w1 ⟨rfl,hf⟩;have hx:=(((TB.made w t).keep ((Fr.refl _).alloc _)).keep ((Fr.refl _).alloc _)).keep hf;have HX1:=Lib.hid hx;obtain ⟨_,x0,x1,x2,x3⟩:=hx;have HF1:=Lib.hid (((((Fr.refl w).alloc _).alloc _).alloc _).trans hf);clear hf))
 exact ⟨rfl,rfl,FrX.of HF3.out⟩

theorem value_text (f R e:Nat) (n:Int) (s:List UInt8) (a:Nat) (l:List Scn.Tok) (d p:Nat) (w:World) (h:Rdr w R e l p) (hp:p≤8192) (hs:s.length≤140737488355328):
  Calls Tryz.prog 46 #[.pointer (some ⟨R,0,none⟩),tkA ⟨4,n,s,a⟩,.int .i64 (d:Nat)] w (ValP R e w (Rd.rdV (f+1) e ⟨4,n,s,a⟩ l d p)):=by
 rw [Rd.rdV_succ,if_neg (by simp [Rd.leaf])]
 have c2:=h.c2
 have hlt:=h.lt
 have f2:=h.fz 2
 have HR:=Lib.hid h
 have hC:∀ o1 o2 o3:Obj,(((w.alloc o1).alloc o2).alloc o3).cell? ⟨R,2,none⟩=some (.int .i64 (p:Nat)):=fun o1 o2 o3=>(((((Fr.refl w).alloc o1).alloc o2).alloc o3).cell hlt).trans c2
 have hZ:∀ o1 o2 o3:Obj,(((w.alloc o1).alloc o2).alloc o3).frozen? ⟨R,2,none⟩=false:=fun o1 o2 o3=>(((((Fr.refl w).alloc o1).alloc o2).alloc o3).frozen hlt).trans f2
 clear h c2 f2
 have HT:Hid (tkA ⟨4,n,s,a⟩=.agg #[.int .i64 4,.int .i64 n,.string ⟨s.toArray⟩,.int .i64 (a:Nat)]):=rfl
 rw [HT.out]
 by_cases h1:16<d
 ·rw [if_pos h1]
  have d1:decide ((16:Int)<(d:Int))=true:=decide_eq_true (by omega)
  clear h1
  go_enter Tryz.func46,Tryz.ntmps46
  go_wp2_with (go_at_call 48;refine (wrong_at ⟨4,n,s,a⟩ 51 51 rfl _).mono ?_;rintro x w3 ⟨rfl,hf⟩;have HF3:=Lib.hid (((((Fr.refl w).alloc _).alloc _).alloc _).trans hf);clear hf)
  exact ⟨rfl,rfl,FrX.of HF3.out⟩
 rw [if_neg h1]
 have d1:decide ((16:Int)<(d:Int))=false:=decide_eq_false (by omega)
 by_cases h2:8192≤p
 ·obtain rfl:p=8192:=by omega
  rw [if_pos h2]
  clear h1 h2
  go_enter Tryz.func46,Tryz.ntmps46
  go_wp2_with (go_at_call 48;refine (wrong_at ⟨4,n,s,a⟩ 53 53 rfl _).mono ?_;rintro x w3 ⟨rfl,hf⟩;have HF3:=Lib.hid (FrX.of (C:=R) hf);clear hf)
  exact ⟨rfl,rfl,(((((FrX.refl R w).alloc _).alloc _).alloc _).setCell rfl _).trans HF3.out⟩
 rw [if_neg h2,show Rd.leaf ⟨4,n,s,a⟩=some (JV.textV s) from rfl]
 have hp2:(p:Int)≤8191:=by omega
 have d2:decide ((8192:Int)<(p:Int)+1)=false:=decide_eq_false (by omega)
 clear h1 h2
 go_enter Tryz.func46,Tryz.ntmps46
 go_wp2_with fail
 have hy:(((((w.alloc (.cells #[.int .i64 4,.int .i64 n,.string ⟨s.toArray⟩,.int .i64 (a:Nat)] 88)).alloc (.cells #[.int .i64 0,.int .i64 0,.string ⟨#[]⟩,.slice none 0 0,.slice none 0 0] 25)).alloc (.cells #[.int .i64 4,.int .i64 0,.string ⟨s.toArray⟩,.slice none 0 0,.slice none 0 0] 25)).setCell ⟨R,2,none⟩ (.int .i64 ((p:Int)+1)))).heap[w.heap.size+1]? = some (.cells #[.int .i64 0,.int .i64 0,.string ⟨#[]⟩,.slice none 0 0,.slice none 0 0] 25 (0,0)):=by
  rw [Below.heap_setCell _ _ _ _ (by show w.heap.size+1≠R;omega),Below.heap_alloc _ _ _ (by simp)]
  have:=heap_made (w.alloc (.cells #[.int .i64 4,.int .i64 n,.string ⟨s.toArray⟩,.int .i64 (a:Nat)] 88)) #[.int .i64 0,.int .i64 0,.string ⟨#[]⟩,.slice none 0 0,.slice none 0 0] 25
  simpa using this
 refine bodyPost_ret (results_cell_row (by rfl) _ _ (w.heap.size+1) 25 _ (0,0) _ (by rfl) (set5 hy) Tryz.underlying25 rfl (by kernel_rfl)) rfl ?_
 have hRw:∀ j,R<(Addr.mk (w.heap.size+1) j none).block:=fun j=>(by show R<w.heap.size+1;omega)
 have hSw:∀ j,w.heap.size≤(Addr.mk (w.heap.size+1) j none).block:=fun j=>(by show w.heap.size≤w.heap.size+1;omega)
 refine ⟨_,rfl,⟨InV.leaf _ _ 4 0 s none none 0 0 (by decide) (by decide) (by decide) (by decide) hs,TopF.none_ _ _ _ _⟩,?_,?_⟩
 ·exact ((((((((HR.out.keep ((Fr.refl w).alloc _)).keep ((Fr.refl _).alloc _)).keep ((Fr.refl _).alloc _)).more (by omega)).setY (hRw _) _).setY (hRw _) _).setY (hRw _) _).setY (hRw _) _).setY (hRw _) _
 ·exact (((((((((FrX.refl R w).alloc _).alloc _).alloc _).setCell rfl _).setNew (hSw _) _).setNew (hSw _) _).setNew (hSw _) _).setNew (hSw _) _).setNew (hSw _) _
/- The walk of the reader's value: numbers. -/

theorem value_num (f R e:Nat) (n:Int) (s:List UInt8) (a:Nat) (l:List Scn.Tok) (d p:Nat) (w:World) (h:Rdr w R e l p) (hp:p≤8192) (hn1:-9223372036854775808≤n) (hn2:n≤9223372036854775807):
  Calls Tryz.prog 46 #[.pointer (some ⟨R,0,none⟩),tkA ⟨3,n,s,a⟩,.int .i64 (d:Nat)] w (ValP R e w (Rd.rdV (f+1) e ⟨3,n,s,a⟩ l d p)):=by
 rw [Rd.rdV_succ,if_neg (by simp [Rd.leaf])]
 have c2:=h.c2
 have hlt:=h.lt
 have f2:=h.fz 2
 have HR:=Lib.hid h
 have hC:∀ o1 o2 o3:Obj,(((w.alloc o1).alloc o2).alloc o3).cell? ⟨R,2,none⟩=some (.int .i64 (p:Nat)):=fun o1 o2 o3=>(((((Fr.refl w).alloc o1).alloc o2).alloc o3).cell hlt).trans c2
 have hZ:∀ o1 o2 o3:Obj,(((w.alloc o1).alloc o2).alloc o3).frozen? ⟨R,2,none⟩=false:=fun o1 o2 o3=>(((((Fr.refl w).alloc o1).alloc o2).alloc o3).frozen hlt).trans f2
 clear h c2 f2
 have HT:Hid (tkA ⟨3,n,s,a⟩=.agg #[.int .i64 3,.int .i64 n,.string ⟨s.toArray⟩,.int .i64 (a:Nat)]):=rfl
 rw [HT.out]
 by_cases h1:16<d
 ·rw [if_pos h1]
  have d1:decide ((16:Int)<(d:Int))=true:=decide_eq_true (by omega)
  clear h1
  go_enter Tryz.func46,Tryz.ntmps46
  go_wp2_with (go_at_call 48;refine (wrong_at ⟨3,n,s,a⟩ 51 51 rfl _).mono ?_;rintro x w3 ⟨rfl,hf⟩;have HF3:=Lib.hid (((((Fr.refl w).alloc _).alloc _).alloc _).trans hf);clear hf)
  exact ⟨rfl,rfl,FrX.of HF3.out⟩
 rw [if_neg h1]
 have d1:decide ((16:Int)<(d:Int))=false:=decide_eq_false (by omega)
 by_cases h2:8192≤p
 ·obtain rfl:p=8192:=by omega
  rw [if_pos h2]
  clear h1 h2
  go_enter Tryz.func46,Tryz.ntmps46
  go_wp2_with (go_at_call 48;refine (wrong_at ⟨3,n,s,a⟩ 53 53 rfl _).mono ?_;rintro x w3 ⟨rfl,hf⟩;have HF3:=Lib.hid (FrX.of (C:=R) hf);clear hf)
  exact ⟨rfl,rfl,(((((FrX.refl R w).alloc _).alloc _).alloc _).setCell rfl _).trans HF3.out⟩
 rw [if_neg h2,show Rd.leaf ⟨3,n,s,a⟩=some (JV.intV n) from rfl]
 have hp2:(p:Int)≤8191:=by omega
 have d2:decide ((8192:Int)<(p:Int)+1)=false:=decide_eq_false (by omega)
 clear h1 h2
 go_enter Tryz.func46,Tryz.ntmps46
 go_wp2_with fail
 have hy:(((((w.alloc (.cells #[.int .i64 3,.int .i64 n,.string ⟨s.toArray⟩,.int .i64 (a:Nat)] 88)).alloc (.cells #[.int .i64 0,.int .i64 0,.string ⟨#[]⟩,.slice none 0 0,.slice none 0 0] 25)).alloc (.cells #[.int .i64 3,.int .i64 n,.string ⟨#[]⟩,.slice none 0 0,.slice none 0 0] 25)).setCell ⟨R,2,none⟩ (.int .i64 ((p:Int)+1)))).heap[w.heap.size+1]? = some (.cells #[.int .i64 0,.int .i64 0,.string ⟨#[]⟩,.slice none 0 0,.slice none 0 0] 25 (0,0)):=by
  rw [Below.heap_setCell _ _ _ _ (by show w.heap.size+1≠R;omega),Below.heap_alloc _ _ _ (by simp)]
  have:=heap_made (w.alloc (.cells #[.int .i64 3,.int .i64 n,.string ⟨s.toArray⟩,.int .i64 (a:Nat)] 88)) #[.int .i64 0,.int .i64 0,.string ⟨#[]⟩,.slice none 0 0,.slice none 0 0] 25
  simpa using this
 refine bodyPost_ret (results_cell_row (by rfl) _ _ (w.heap.size+1) 25 _ (0,0) _ (by rfl) (set5 hy) Tryz.underlying25 rfl (by kernel_rfl)) rfl ?_
 have hRw:∀ j,R<(Addr.mk (w.heap.size+1) j none).block:=fun j=>(by show R<w.heap.size+1;omega)
 have hSw:∀ j,w.heap.size≤(Addr.mk (w.heap.size+1) j none).block:=fun j=>(by show w.heap.size≤w.heap.size+1;omega)
 refine ⟨_,rfl,⟨InV.leaf _ _ 3 n [] none none 0 0 hn1 hn2 (by decide) (by decide) (by simp),TopF.none_ _ _ _ _⟩,?_,?_⟩
 ·exact ((((((((HR.out.keep ((Fr.refl w).alloc _)).keep ((Fr.refl _).alloc _)).keep ((Fr.refl _).alloc _)).more (by omega)).setY (hRw _) _).setY (hRw _) _).setY (hRw _) _).setY (hRw _) _).setY (hRw _) _
 ·exact (((((((((FrX.refl R w).alloc _).alloc _).alloc _).setCell rfl _).setNew (hSw _) _).setNew (hSw _) _).setNew (hSw _) _).setNew (hSw _) _).setNew (hSw _) _
/- The walk of the reader's value: words. -/

theorem value_null (f R e:Nat) (n:Int) (a:Nat) (l:List Scn.Tok) (d p:Nat) (w:World) (h:Rdr w R e l p) (hp:p≤8192):
  Calls Tryz.prog 46 #[.pointer (some ⟨R,0,none⟩),tkA ⟨2,n,[110,117,108,108],a⟩,.int .i64 (d:Nat)] w (ValP R e w (Rd.rdV (f+1) e ⟨2,n,[110,117,108,108],a⟩ l d p)):=by
 rw [Rd.rdV_succ,if_neg (by rw [show Rd.leaf ⟨2,n,[110,117,108,108],a⟩=some (JV.nullV) from rfl];simp)]
 have c2:=h.c2
 have hlt:=h.lt
 have f2:=h.fz 2
 have HR:=Lib.hid h
 have hC:∀ o1 o2 o3:Obj,(((w.alloc o1).alloc o2).alloc o3).cell? ⟨R,2,none⟩=some (.int .i64 (p:Nat)):=fun o1 o2 o3=>(((((Fr.refl w).alloc o1).alloc o2).alloc o3).cell hlt).trans c2
 have hZ:∀ o1 o2 o3:Obj,(((w.alloc o1).alloc o2).alloc o3).frozen? ⟨R,2,none⟩=false:=fun o1 o2 o3=>(((((Fr.refl w).alloc o1).alloc o2).alloc o3).frozen hlt).trans f2
 clear h c2 f2
 have HT:Hid (tkA ⟨2,n,[110,117,108,108],a⟩=.agg #[.int .i64 2,.int .i64 n,.string ⟨#[110,117,108,108]⟩,.int .i64 (a:Nat)]):=rfl
 rw [HT.out]
 by_cases h1:16<d
 ·rw [if_pos h1]
  have d1:decide ((16:Int)<(d:Int))=true:=decide_eq_true (by omega)
  clear h1
  go_enter Tryz.func46,Tryz.ntmps46
  go_wp2_with (go_at_call 48;refine (wrong_at ⟨2,n,[110,117,108,108],a⟩ 51 51 rfl _).mono ?_;rintro x w3 ⟨rfl,hf⟩;have HF3:=Lib.hid (((((Fr.refl w).alloc _).alloc _).alloc _).trans hf);clear hf)
  exact ⟨rfl,rfl,FrX.of HF3.out⟩
 rw [if_neg h1]
 have d1:decide ((16:Int)<(d:Int))=false:=decide_eq_false (by omega)
 by_cases h2:8192≤p
 ·obtain rfl:p=8192:=by omega
  rw [if_pos h2]
  clear h1 h2
  go_enter Tryz.func46,Tryz.ntmps46
  go_wp2_with (go_at_call 48;refine (wrong_at ⟨2,n,[110,117,108,108],a⟩ 53 53 rfl _).mono ?_;rintro x w3 ⟨rfl,hf⟩;have HF3:=Lib.hid (FrX.of (C:=R) hf);clear hf)
  exact ⟨rfl,rfl,(((((FrX.refl R w).alloc _).alloc _).alloc _).setCell rfl _).trans HF3.out⟩
 rw [if_neg h2,show Rd.leaf ⟨2,n,[110,117,108,108],a⟩=some (JV.nullV) from rfl]
 have hp2:(p:Int)≤8191:=by omega
 have d2:decide ((8192:Int)<(p:Int)+1)=false:=decide_eq_false (by omega)
 clear h1 h2
 go_enter Tryz.func46,Tryz.ntmps46
 go_wp2_with fail
 have hy:(((((w.alloc (.cells #[.int .i64 2,.int .i64 n,.string ⟨#[110,117,108,108]⟩,.int .i64 (a:Nat)] 88)).alloc (.cells #[.int .i64 0,.int .i64 0,.string ⟨#[]⟩,.slice none 0 0,.slice none 0 0] 25)).alloc (.cells #[.int .i64 1,.int .i64 0,.string ⟨#[]⟩,.slice none 0 0,.slice none 0 0] 25)).setCell ⟨R,2,none⟩ (.int .i64 ((p:Int)+1)))).heap[w.heap.size+1]? = some (.cells #[.int .i64 0,.int .i64 0,.string ⟨#[]⟩,.slice none 0 0,.slice none 0 0] 25 (0,0)):=by
  rw [Below.heap_setCell _ _ _ _ (by show w.heap.size+1≠R;omega),Below.heap_alloc _ _ _ (by simp)]
  have:=heap_made (w.alloc (.cells #[.int .i64 2,.int .i64 n,.string ⟨#[110,117,108,108]⟩,.int .i64 (a:Nat)] 88)) #[.int .i64 0,.int .i64 0,.string ⟨#[]⟩,.slice none 0 0,.slice none 0 0] 25
  simpa using this
 refine bodyPost_ret (results_cell_row (by rfl) _ _ (w.heap.size+1) 25 _ (0,0) _ (by rfl) (set5 hy) Tryz.underlying25 rfl (by kernel_rfl)) rfl ?_
 have hRw:∀ j,R<(Addr.mk (w.heap.size+1) j none).block:=fun j=>(by show R<w.heap.size+1;omega)
 have hSw:∀ j,w.heap.size≤(Addr.mk (w.heap.size+1) j none).block:=fun j=>(by show w.heap.size≤w.heap.size+1;omega)
 refine ⟨_,rfl,⟨InV.leaf _ _ 1 0 [] none none 0 0 (by decide) (by decide) (by decide) (by decide) (by simp),TopF.none_ _ _ _ _⟩,?_,?_⟩
 ·exact ((((((((HR.out.keep ((Fr.refl w).alloc _)).keep ((Fr.refl _).alloc _)).keep ((Fr.refl _).alloc _)).more (by omega)).setY (hRw _) _).setY (hRw _) _).setY (hRw _) _).setY (hRw _) _).setY (hRw _) _
 ·exact (((((((((FrX.refl R w).alloc _).alloc _).alloc _).setCell rfl _).setNew (hSw _) _).setNew (hSw _) _).setNew (hSw _) _).setNew (hSw _) _).setNew (hSw _) _
theorem value_true (f R e:Nat) (n:Int) (a:Nat) (l:List Scn.Tok) (d p:Nat) (w:World) (h:Rdr w R e l p) (hp:p≤8192):
  Calls Tryz.prog 46 #[.pointer (some ⟨R,0,none⟩),tkA ⟨2,n,[116,114,117,101],a⟩,.int .i64 (d:Nat)] w (ValP R e w (Rd.rdV (f+1) e ⟨2,n,[116,114,117,101],a⟩ l d p)):=by
 rw [Rd.rdV_succ,if_neg (by rw [show Rd.leaf ⟨2,n,[116,114,117,101],a⟩=some (JV.boolV 1) from rfl];simp)]
 have c2:=h.c2
 have hlt:=h.lt
 have f2:=h.fz 2
 have HR:=Lib.hid h
 have hC:∀ o1 o2 o3:Obj,(((w.alloc o1).alloc o2).alloc o3).cell? ⟨R,2,none⟩=some (.int .i64 (p:Nat)):=fun o1 o2 o3=>(((((Fr.refl w).alloc o1).alloc o2).alloc o3).cell hlt).trans c2
 have hZ:∀ o1 o2 o3:Obj,(((w.alloc o1).alloc o2).alloc o3).frozen? ⟨R,2,none⟩=false:=fun o1 o2 o3=>(((((Fr.refl w).alloc o1).alloc o2).alloc o3).frozen hlt).trans f2
 clear h c2 f2
 have HT:Hid (tkA ⟨2,n,[116,114,117,101],a⟩=.agg #[.int .i64 2,.int .i64 n,.string ⟨#[116,114,117,101]⟩,.int .i64 (a:Nat)]):=rfl
 rw [HT.out]
 by_cases h1:16<d
 ·rw [if_pos h1]
  have d1:decide ((16:Int)<(d:Int))=true:=decide_eq_true (by omega)
  clear h1
  go_enter Tryz.func46,Tryz.ntmps46
  go_wp2_with (go_at_call 48;refine (wrong_at ⟨2,n,[116,114,117,101],a⟩ 51 51 rfl _).mono ?_;rintro x w3 ⟨rfl,hf⟩;have HF3:=Lib.hid (((((Fr.refl w).alloc _).alloc _).alloc _).trans hf);clear hf)
  exact ⟨rfl,rfl,FrX.of HF3.out⟩
 rw [if_neg h1]
 have d1:decide ((16:Int)<(d:Int))=false:=decide_eq_false (by omega)
 by_cases h2:8192≤p
 ·obtain rfl:p=8192:=by omega
  rw [if_pos h2]
  clear h1 h2
  go_enter Tryz.func46,Tryz.ntmps46
  go_wp2_with (go_at_call 48;refine (wrong_at ⟨2,n,[116,114,117,101],a⟩ 53 53 rfl _).mono ?_;rintro x w3 ⟨rfl,hf⟩;have HF3:=Lib.hid (FrX.of (C:=R) hf);clear hf)
  exact ⟨rfl,rfl,(((((FrX.refl R w).alloc _).alloc _).alloc _).setCell rfl _).trans HF3.out⟩
 rw [if_neg h2,show Rd.leaf ⟨2,n,[116,114,117,101],a⟩=some (JV.boolV 1) from rfl]
 have hp2:(p:Int)≤8191:=by omega
 have d2:decide ((8192:Int)<(p:Int)+1)=false:=decide_eq_false (by omega)
 clear h1 h2
 go_enter Tryz.func46,Tryz.ntmps46
 go_wp2_with fail
 have hy:(((((w.alloc (.cells #[.int .i64 2,.int .i64 n,.string ⟨#[116,114,117,101]⟩,.int .i64 (a:Nat)] 88)).alloc (.cells #[.int .i64 0,.int .i64 0,.string ⟨#[]⟩,.slice none 0 0,.slice none 0 0] 25)).alloc (.cells #[.int .i64 2,.int .i64 1,.string ⟨#[]⟩,.slice none 0 0,.slice none 0 0] 25)).setCell ⟨R,2,none⟩ (.int .i64 ((p:Int)+1)))).heap[w.heap.size+1]? = some (.cells #[.int .i64 0,.int .i64 0,.string ⟨#[]⟩,.slice none 0 0,.slice none 0 0] 25 (0,0)):=by
  rw [Below.heap_setCell _ _ _ _ (by show w.heap.size+1≠R;omega),Below.heap_alloc _ _ _ (by simp)]
  have:=heap_made (w.alloc (.cells #[.int .i64 2,.int .i64 n,.string ⟨#[116,114,117,101]⟩,.int .i64 (a:Nat)] 88)) #[.int .i64 0,.int .i64 0,.string ⟨#[]⟩,.slice none 0 0,.slice none 0 0] 25
  simpa using this
 refine bodyPost_ret (results_cell_row (by rfl) _ _ (w.heap.size+1) 25 _ (0,0) _ (by rfl) (set5 hy) Tryz.underlying25 rfl (by kernel_rfl)) rfl ?_
 have hRw:∀ j,R<(Addr.mk (w.heap.size+1) j none).block:=fun j=>(by show R<w.heap.size+1;omega)
 have hSw:∀ j,w.heap.size≤(Addr.mk (w.heap.size+1) j none).block:=fun j=>(by show w.heap.size≤w.heap.size+1;omega)
 refine ⟨_,rfl,⟨InV.leaf _ _ 2 1 [] none none 0 0 (by decide) (by decide) (by decide) (by decide) (by simp),TopF.none_ _ _ _ _⟩,?_,?_⟩
 ·exact ((((((((HR.out.keep ((Fr.refl w).alloc _)).keep ((Fr.refl _).alloc _)).keep ((Fr.refl _).alloc _)).more (by omega)).setY (hRw _) _).setY (hRw _) _).setY (hRw _) _).setY (hRw _) _).setY (hRw _) _
 ·exact (((((((((FrX.refl R w).alloc _).alloc _).alloc _).setCell rfl _).setNew (hSw _) _).setNew (hSw _) _).setNew (hSw _) _).setNew (hSw _) _).setNew (hSw _) _
theorem value_word (f R e:Nat) (n:Int) (s:List UInt8) (a:Nat) (l:List Scn.Tok) (d p:Nat) (w:World) (h:Rdr w R e l p) (hp:p≤8192) (h1:s≠JV.tNull) (h2:s≠JV.tTrue):
  Calls Tryz.prog 46 #[.pointer (some ⟨R,0,none⟩),tkA ⟨2,n,s,a⟩,.int .i64 (d:Nat)] w (ValP R e w (Rd.rdV (f+1) e ⟨2,n,s,a⟩ l d p)):=by
 have hlf:Rd.leaf ⟨2,n,s,a⟩=some (JV.boolV 0):=by simp [Rd.leaf,h1,h2]
 rw [Rd.rdV_succ,if_neg (by rw [hlf];simp)]
 have h1:s≠[110,117,108,108]:=h1
 have h2:s≠[116,114,117,101]:=h2
 have w1:((⟨s.toArray⟩:ByteArray).toList == (⟨#[110,117,108,108]⟩:ByteArray).toList)=false:=by
  rw [ByteArray.toList_eq,ByteArray.toList_eq];simpa using h1
 have w2:((⟨s.toArray⟩:ByteArray).toList == (⟨#[116,114,117,101]⟩:ByteArray).toList)=false:=by
  rw [ByteArray.toList_eq,ByteArray.toList_eq];simpa using h2
 have w3:(s == [110,117,108,108])=false:=by rw [beq_eq_false_iff_ne];exact h1
 have w4:(s == [116,114,117,101])=false:=by rw [beq_eq_false_iff_ne];exact h2
 clear h1 h2
 have c2:=h.c2
 have hlt:=h.lt
 have f2:=h.fz 2
 have HR:=Lib.hid h
 have hC:∀ o1 o2 o3:Obj,(((w.alloc o1).alloc o2).alloc o3).cell? ⟨R,2,none⟩=some (.int .i64 (p:Nat)):=fun o1 o2 o3=>(((((Fr.refl w).alloc o1).alloc o2).alloc o3).cell hlt).trans c2
 have hZ:∀ o1 o2 o3:Obj,(((w.alloc o1).alloc o2).alloc o3).frozen? ⟨R,2,none⟩=false:=fun o1 o2 o3=>(((((Fr.refl w).alloc o1).alloc o2).alloc o3).frozen hlt).trans f2
 clear h c2 f2
 have HT:Hid (tkA ⟨2,n,s,a⟩=.agg #[.int .i64 2,.int .i64 n,.string ⟨s.toArray⟩,.int .i64 (a:Nat)]):=rfl
 rw [HT.out]
 by_cases h1:16<d
 ·rw [if_pos h1]
  have d1:decide ((16:Int)<(d:Int))=true:=decide_eq_true (by omega)
  clear h1
  go_enter Tryz.func46,Tryz.ntmps46
  go_wp2_with (go_at_call 48;refine (wrong_at ⟨2,n,s,a⟩ 51 51 rfl _).mono ?_;rintro x w3 ⟨rfl,hf⟩;have HF3:=Lib.hid (((((Fr.refl w).alloc _).alloc _).alloc _).trans hf);clear hf)
  exact ⟨rfl,rfl,FrX.of HF3.out⟩
 rw [if_neg h1]
 have d1:decide ((16:Int)<(d:Int))=false:=decide_eq_false (by omega)
 by_cases h2:8192≤p
 ·obtain rfl:p=8192:=by omega
  rw [if_pos h2]
  clear h1 h2
  go_enter Tryz.func46,Tryz.ntmps46
  go_wp2_with (go_at_call 48;refine (wrong_at ⟨2,n,s,a⟩ 53 53 rfl _).mono ?_;rintro x w3 ⟨rfl,hf⟩;have HF3:=Lib.hid (FrX.of (C:=R) hf);clear hf)
  exact ⟨rfl,rfl,(((((FrX.refl R w).alloc _).alloc _).alloc _).setCell rfl _).trans HF3.out⟩
 rw [if_neg h2,hlf]
 have hp2:(p:Int)≤8191:=by omega
 have d2:decide ((8192:Int)<(p:Int)+1)=false:=decide_eq_false (by omega)
 clear h1 h2
 go_enter Tryz.func46,Tryz.ntmps46
 go_wp2_with fail
 have hy:(((((w.alloc (.cells #[.int .i64 2,.int .i64 n,.string ⟨s.toArray⟩,.int .i64 (a:Nat)] 88)).alloc (.cells #[.int .i64 0,.int .i64 0,.string ⟨#[]⟩,.slice none 0 0,.slice none 0 0] 25)).alloc (.cells #[.int .i64 2,.int .i64 0,.string ⟨#[]⟩,.slice none 0 0,.slice none 0 0] 25)).setCell ⟨R,2,none⟩ (.int .i64 ((p:Int)+1)))).heap[w.heap.size+1]? = some (.cells #[.int .i64 0,.int .i64 0,.string ⟨#[]⟩,.slice none 0 0,.slice none 0 0] 25 (0,0)):=by
  rw [Below.heap_setCell _ _ _ _ (by show w.heap.size+1≠R;omega),Below.heap_alloc _ _ _ (by simp)]
  have:=heap_made (w.alloc (.cells #[.int .i64 2,.int .i64 n,.string ⟨s.toArray⟩,.int .i64 (a:Nat)] 88)) #[.int .i64 0,.int .i64 0,.string ⟨#[]⟩,.slice none 0 0,.slice none 0 0] 25
  simpa using this
 refine bodyPost_ret (results_cell_row (by rfl) _ _ (w.heap.size+1) 25 _ (0,0) _ (by rfl) (set5 hy) Tryz.underlying25 rfl (by kernel_rfl)) rfl ?_
 have hRw:∀ j,R<(Addr.mk (w.heap.size+1) j none).block:=fun j=>(by show R<w.heap.size+1;omega)
 have hSw:∀ j,w.heap.size≤(Addr.mk (w.heap.size+1) j none).block:=fun j=>(by show w.heap.size≤w.heap.size+1;omega)
 refine ⟨_,rfl,⟨InV.leaf _ _ 2 0 [] none none 0 0 (by decide) (by decide) (by decide) (by decide) (by simp),TopF.none_ _ _ _ _⟩,?_,?_⟩
 ·exact ((((((((HR.out.keep ((Fr.refl w).alloc _)).keep ((Fr.refl _).alloc _)).keep ((Fr.refl _).alloc _)).more (by omega)).setY (hRw _) _).setY (hRw _) _).setY (hRw _) _).setY (hRw _) _).setY (hRw _) _
 ·exact (((((((((FrX.refl R w).alloc _).alloc _).alloc _).setCell rfl _).setNew (hSw _) _).setNew (hSw _) _).setNew (hSw _) _).setNew (hSw _) _).setNew (hSw _) _
end Go.Proofs.YtdhakbghdcfncaaGreatDoor
