/- The document's reader: its token, mark, fail. -/
import Derived.Test.YtockgemmkjdnkaaGreatDoorRl
set_option maxRecDepth 100000
set_option maxHeartbeats 1000000
set_option linter.unusedVariables false
set_option linter.unusedSimpArgs false
namespace Go.Proofs.YtockgemmkjdnkaaGreatDoor
open Go.RowKit

structure Prs (w:World) (R e:Nat) (ts:List Scn.Tok) (i p a c:Nat):Prop where
 blk:∃ A cc,Blk w R #[.slice A ts.length cc,.int .i64 (e:Nat),.int .i64 (i:Nat),.int .i64 (p:Nat),.int .i64 (a:Nat),.int .i64 (c:Nat)] 92/\TV w R A ts
 hi:i<=ts.length
theorem Prs.lt {w:World} {R e:Nat} {ts:List Scn.Tok} {i p a c:Nat} (h:Prs w R e ts i p a c):R<w.heap.size:=by
 obtain ⟨A,cc,hb,_⟩:=h.blk;exact hb.lt
theorem Prs.keep {w w':World} {R e:Nat} {ts:List Scn.Tok} {i p a c:Nat} (h:Prs w R e ts i p a c) (hf:Fr w w'):Prs w' R e ts i p a c:=by
 obtain ⟨A,cc,hb,hv⟩:=h.blk;exact ⟨⟨A,cc,hb.keep hf,hv.blw (Below.mono hf (Nat.le_of_lt hb.lt))⟩,h.hi⟩
theorem Prs.drewN {w:World} {R e:Nat} {ts:List Scn.Tok} {i p a c:Nat} (h:Prs w R e ts i p a c) (n:Nat):Prs (w.drewN n) R e ts i p a c:=h.keep ((FR w).drewN n)
theorem Prs.setY {w:World} {R e:Nat} {ts:List Scn.Tok} {i p a c:Nat} (h:Prs w R e ts i p a c) {b:Addr} (hb:R<b.block) (u:Value):Prs (w.setCell b u) R e ts i p a c:=by
 obtain ⟨A,cc,hbk,hv⟩:=h.blk;exact ⟨⟨A,cc,hbk.other (by omega) _,hv.blw (Below.setCell (Below.refl _ _) (Nat.le_of_lt hb) u)⟩,h.hi⟩
theorem Prs.below {w w':World} {R e:Nat} {ts:List Scn.Tok} {i p a c:Nat} (h:Prs w R e ts i p a c) (hb:Below (R+1) w w'):Prs w' R e ts i p a c:=by
 obtain ⟨A,cc,hbk,hv⟩:=h.blk;exact ⟨⟨A,cc,(Below.block hb R (Nat.lt_succ_self R)).trans hbk,hv.blw (Below.mono hb (Nat.le_succ R))⟩,h.hi⟩
theorem Prs.setI {w:World} {R e:Nat} {ts:List Scn.Tok} {i p a c:Nat} (h:Prs w R e ts i p a c) {z:Int} {j:Nat} (hz:z=(j:Nat)) (hj:j<=ts.length):Prs (w.setCell ⟨R,2,none⟩ (.int .i64 z)) R e ts j p a c:=by
 subst hz;obtain ⟨A,cc,hbk,hv⟩:=h.blk;exact ⟨⟨A,cc,hbk.set 2 _,hv.blw (Below.setCell (p:=⟨R,2,none⟩) (Below.refl _ _) (lR R) _)⟩,hj⟩
theorem Prs.setP {w:World} {R e:Nat} {ts:List Scn.Tok} {i p a c:Nat} (h:Prs w R e ts i p a c) {z:Int} {j:Nat} (hz:z=(j:Nat)):Prs (w.setCell ⟨R,3,none⟩ (.int .i64 z)) R e ts i j a c:=by
 subst hz;obtain ⟨A,cc,hbk,hv⟩:=h.blk;exact ⟨⟨A,cc,hbk.set 3 _,hv.blw (Below.setCell (p:=⟨R,3,none⟩) (Below.refl _ _) (lR R) _)⟩,h.hi⟩
theorem Prs.setA {w:World} {R e:Nat} {ts:List Scn.Tok} {i p a c:Nat} (h:Prs w R e ts i p a c) {z:Int} {j:Nat} (hz:z=(j:Nat)):Prs (w.setCell ⟨R,4,none⟩ (.int .i64 z)) R e ts i p j c:=by
 subst hz;obtain ⟨A,cc,hbk,hv⟩:=h.blk;exact ⟨⟨A,cc,hbk.set 4 _,hv.blw (Below.setCell (p:=⟨R,4,none⟩) (Below.refl _ _) (lR R) _)⟩,h.hi⟩
theorem Prs.setW {w:World} {R e:Nat} {ts:List Scn.Tok} {i p a c:Nat} (h:Prs w R e ts i p a c) {z:Int} {j:Nat} (hz:z=(j:Nat)):Prs (w.setCell ⟨R,5,none⟩ (.int .i64 z)) R e ts i p a j:=by
 subst hz;obtain ⟨A,cc,hbk,hv⟩:=h.blk;exact ⟨⟨A,cc,hbk.set 5 _,hv.blw (Below.setCell (p:=⟨R,5,none⟩) (Below.refl _ _) (lR R) _)⟩,h.hi⟩
theorem Prs.cells {w:World} {R e:Nat} {ts:List Scn.Tok} {i p a c:Nat} (h:Prs w R e ts i p a c):
  (w.cell? ⟨R,2,none⟩=some (.int .i64 (i:Nat))/\w.cell? ⟨R,3,none⟩=some (.int .i64 (p:Nat))/\w.cell? ⟨R,4,none⟩=some (.int .i64 (a:Nat))/\w.cell? ⟨R,5,none⟩=some (.int .i64 (c:Nat))) /\ ∀ j,w.frozen? ⟨R,j,none⟩=false:=by
 obtain ⟨A,cc,hbk,hv⟩:=h.blk;exact ⟨⟨hbk.cell 2,hbk.cell 3,hbk.cell 4,hbk.cell 5⟩,hbk.free⟩

theorem setC4 {W:World} {X:Nat} {a b c d v0 v1 v2 v3:Value} {t:TypeId} (h:W.heap[X]? = some (.cells #[a,b,c,d] t (0,0))):
  ((((W.setCell ⟨X,0,none⟩ v0).setCell ⟨X,1,none⟩ v1).setCell ⟨X,2,none⟩ v2).setCell ⟨X,3,none⟩ v3).heap[X]? = some (.cells #[v0,v1,v2,v3] t (0,0)):=by
 simp [World.setCell,Array.getElem?_modify,h]
theorem token_is (R e:Nat) (ts:List Scn.Tok) (i p a c:Nat) (w:World) (h:Prs w R e ts i p a c) (hl:ts.length<=140737488355328):
  Calls Tryz.prog 73 #[.pointer (some ⟨R,0,none⟩)] w λx w'=>x=.returned (tkA (Rd.next e (ts.drop i)))/\Fr w w':=by
 obtain ⟨A,cc,hbk,hv⟩:=h.blk;have hlt:=hbk.lt;have hi:=h.hi;have hb2:∀ ob,Blk (w.alloc ob) R #[.slice A ts.length cc,.int .i64 (e:Nat),.int .i64 (i:Nat),.int .i64 (p:Nat),.int .i64 (a:Nat),.int .i64 (c:Nat)] 92:=λob=>hbk.keep ((FR w).alloc ob)
 have c0:∀ ob,(w.alloc ob).cell? ⟨R,0,none⟩=some (.slice A ts.length cc):=λob=>(hb2 ob).cell 0
 have c1:∀ ob,(w.alloc ob).cell? ⟨R,1,none⟩=some (.int .i64 (e:Nat)):=λob=>(hb2 ob).cell 1
 have c2:∀ ob,(w.alloc ob).cell? ⟨R,2,none⟩=some (.int .i64 (i:Nat)):=λob=>(hb2 ob).cell 2
 by_cases hn:i=ts.length
 ·have hnx:Rd.next e (ts.drop i)=⟨0,0,[],e⟩:=by rw [hn,List.drop_length];rfl
  rw [hnx];clear hv hbk hb2 h;have hge:decide (ts.length<=i)=true:=dT (by omega);have hge2:decide ((ts.length:Int)<=(i:Int))=true:=dT (by omega);go_enter Tryz.func73,Tryz.ntmps73
  go_wp2_with fail
  go_quiet (fail)
  go_wp2_with fail
  refine bodyPost_ret (results_cell_row (by rfl) _ _ w.heap.size 81 _ (0,0) _ (by rfl) (setC4 (a:=.int .i64 0) (b:=.int .i64 0) (c:=.string ⟨#[]⟩) (d:=.int .i64 0) (t:=81) ?hm) Tryz.underlying81 rfl (by kernel_rfl)) rfl ?_
  case hm=>exact Blk.made w _ _
  have hX:∀ j,w.heap.size<=(Addr.mk w.heap.size j none).block:=λ_=>lR _
  exact ⟨rfl,((((((FR w).alloc _).drewN _).setCell (hX 0) _).setCell (hX 1) _).setCell (hX 2) _).setCell (hX 3) _⟩
 ·have hil:i<ts.length:=by omega
  obtain ⟨g,o,rfl,hg,hcell⟩:=hv (by intro e;subst e;simp at hil);obtain ⟨t0,t1,t2,t3⟩:=hcell i hil;have hnx:Rd.next e (ts.drop i)=ts[i]:=by rw [List.drop_eq_getElem_cons hil];rfl
  rw [hnx];obtain ⟨t,ht⟩:∃ t,ts[i]=t:=⟨_,rfl⟩;rw [ht] at t0 t1 t2 t3 ⊢;clear hv hbk hb2 h hcell ht hnx;have hge:decide (ts.length<=i)=false:=dF (by omega);have hge2:decide ((ts.length:Int)<=(i:Int))=false:=dF (by omega);have hil':(i:Int)<(ts.length:Int):=by omega
  have hgw:g<w.heap.size:=by omega
  go_enter Tryz.func73,Tryz.ntmps73
  go_wp2_with fail
  go_quiet (fail)
  go_wp2_with fail
  go_region
  go_wp2_with fail
  refine bodyPost_ret (results_cell_row (by rfl) _ _ w.heap.size 81 _ (0,0) _ (by rfl) (setC4 (a:=.int .i64 0) (b:=.int .i64 0) (c:=.string ⟨#[]⟩) (d:=.int .i64 0) (t:=81) ?hm) Tryz.underlying81 rfl (by kernel_rfl)) rfl ?_
  case hm=>exact Blk.made w _ _
  have hX:∀ j,w.heap.size<=(Addr.mk w.heap.size j none).block:=λ_=>lR _
  exact ⟨rfl,((((((FR w).alloc _).drewN _).setCell (hX 0) _).setCell (hX 1) _).setCell (hX 2) _).setCell (hX 3) _⟩
theorem token_at (R e:Nat) (ts:List Scn.Tok) (i p a c:Nat) (t:Scn.Tok) (ht:Rd.next e (ts.drop i)=t) (w:World) (h:Prs w R e ts i p a c) (hl:ts.length<=140737488355328):
  Calls Tryz.prog 73 #[.pointer (some ⟨R,0,none⟩)] w λx w'=>x=.returned (.agg #[.int .i64 (t.kind:Nat),.int .i64 t.n,.string ⟨t.s.toArray⟩,.int .i64 (t.at_:Nat)])/\Fr w w':=by
 subst ht;exact token_is R e ts i p a c w h hl
theorem next_lt {e i:Nat} {ts:List Scn.Tok} {c:UInt8} (h:Rd.isM (Rd.next e (ts.drop i)) c=true):i<ts.length:=by
 have:=Rd.next_end h;rw [List.length_drop] at this;omega

theorem mark_no (R e:Nat) (ts:List Scn.Tok) (i p a c:Nat) (ch:UInt8) (w:World) (h:Prs w R e ts i p a c) (hl:ts.length<=140737488355328) (hb:Rd.isM (Rd.next e (ts.drop i)) ch=false):
  Calls Tryz.prog 91 #[.pointer (some ⟨R,0,none⟩),.string ⟨[ch].toArray⟩] w λx w'=>x=.returned (.bool false)/\Fr w w':=by
 have HP:=LH h;obtain ⟨t,ht⟩:∃ t,Rd.next e (ts.drop i)=t:=⟨_,rfl⟩;rw [ht] at hb;have HT:=LH ht;have e1:(((t.kind:Nat):Int) == 1)=(t.kind == 1):=by
  rw [Bool.eq_iff_iff,beq_iff_eq,beq_iff_eq];omega
 have e2:((⟨t.s.toArray⟩:ByteArray).toList == (⟨[ch].toArray⟩:ByteArray).toList)=(t.s == [ch]):=by
  rw [ByteArray.toList_eq,ByteArray.toList_eq]
 unfold Rd.isM at hb;obtain ⟨k,hk⟩:∃ k,(t.kind == 1)=k:=⟨_,rfl⟩;obtain ⟨q,hq⟩:∃ q,(t.s == [ch])=q:=⟨_,rfl⟩;rw [hk,hq] at hb;rw [hk] at e1;rw [hq] at e2;clear hk h ht;rcases k with _ | _
 ·go_enter Tryz.func91,Tryz.ntmps91
  go_wp2_with (go_at_call 73;refine (token_at R e ts i p a c t HT.out _ HP.out hl).mono ?_;rintro x w1 ⟨rfl,hf⟩;have HF1:=LH hf;clear hf)
  go_ret
  exact ⟨rfl,HF1.out.alloc _⟩
 ·obtain rfl:q=false:=by simpa using hb
  go_enter Tryz.func91,Tryz.ntmps91
  go_wp2_with (go_at_call 73;refine (token_at R e ts i p a c t HT.out _ HP.out hl).mono ?_;rintro x w1 ⟨rfl,hf⟩;have HF1:=LH hf;clear hf)
  go_ret
  exact ⟨rfl,HF1.out.alloc _⟩
theorem mark_yes (R e:Nat) (ts:List Scn.Tok) (i p a c:Nat) (ch:UInt8) (w:World) (h:Prs w R e ts i p a c) (hl:ts.length<=140737488355328) (hb:Rd.isM (Rd.next e (ts.drop i)) ch=true):
  Calls Tryz.prog 91 #[.pointer (some ⟨R,0,none⟩),.string ⟨[ch].toArray⟩] w λx w'=>x=.returned (.bool true)/\Prs w' R e ts (i+1) p a c/\FrX R w w':=by
 have HP:=LH h;have hlt:=next_lt hb;have hli:(i:Int)<=140737488355328:=by omega
 have hR:=h.lt;obtain ⟨t,ht⟩:∃ t,Rd.next e (ts.drop i)=t:=⟨_,rfl⟩;rw [ht] at hb;have HT:=LH ht;obtain ⟨n,s,a2,rfl,rfl⟩:∃ n a2 k,k=1/\t=⟨k,n,[ch],a2⟩:=by
  obtain ⟨k,n,s,a2⟩:=t;unfold Rd.isM at hb;simp only [Bool.and_eq_true,beq_iff_eq] at hb;exact ⟨n,a2,k,hb.1,by rw [hb.2]⟩
 clear h ht hb;go_enter Tryz.func91,Tryz.ntmps91
 go_wp2_with (go_at_call 73;refine (token_at R e ts i p a c _ HT.out _ HP.out hl).mono ?_;rintro x w1 ⟨rfl,hf⟩;have c2:∀ ob,(w1.alloc ob).cell? ⟨R,2,none⟩=some (.int .i64 (i:Nat)):=(λob=>((HP.out.keep hf).keep ((FR _).alloc ob)).cells.1.1);have fz:∀ ob j,(w1.alloc ob).frozen? ⟨R,j,none⟩=false:=(λob j=>((HP.out.keep hf).keep ((FR _).alloc ob)).cells.2 j);have HP1:=LH (HP.out.keep hf);have HF1:=LH hf;clear hf)
 go_ret
 exact ⟨rfl,(HP1.out.keep ((FR _).alloc _)).setI (by omega) (by omega),((FrX.of HF1.out).alloc _).setCell rfl _⟩
theorem fail_is (R e:Nat) (ts:List Scn.Tok) (i p c:Nat) (w:World) (h:Prs w R e ts i p 0 0) (hl:ts.length<=140737488355328) (z:Int) (hz:z=(c:Nat)) (t:Scn.Tok) (ht:Rd.next e (ts.drop i)=t):
  Calls Tryz.prog 54 #[.pointer (some ⟨R,0,none⟩),.int .i64 z] w λx w'=>x=.returned (.agg #[.int .i64 0,.int .i64 0,.string ⟨#[]⟩,.slice none 0 0,.slice none 0 0])/\Prs w' R e ts i p t.at_ c/\FrX R w w':=by
 subst hz;have HP:=LH h;have HT:=LH ht;have hR:=h.lt;have hn:¬ R=w.heap.size:=by omega
 have c5:∀ ob,(w.alloc ob).cell? ⟨R,5,none⟩=some (.int .i64 0):=λob=>(h.keep ((FR _).alloc ob)).cells.1.2.2.2
 have fz:∀ ob j,(w.alloc ob).frozen? ⟨R,j,none⟩=false:=λob j=>(h.keep ((FR _).alloc ob)).cells.2 j
 have HP1:∀ ob,Hid (Prs ((w.alloc ob).setCell ⟨R,5,none⟩ (.int .i64 (c:Nat))) R e ts i p 0 c):=λob=>(h.keep ((FR _).alloc ob)).setW rfl
 have HP2:∀ ob,Hid (Prs ((w.setCell ⟨R,5,none⟩ (.int .i64 (c:Nat))).alloc ob) R e ts i p 0 c):=λob=>(h.setW rfl).keep ((FR _).alloc ob)
 have hfd:∀ w:World,(Instr.field 81 (.agg #[.int .i64 (t.kind:Nat),.int .i64 t.n,.string ⟨t.s.toArray⟩,.int .i64 (t.at_:Nat)]) 3).run Tryz.prog w=.ok (.int .i64 (t.at_:Nat)) w:=λ_=>by kernel_rfl
 have HZ:Hid (∀ W,Fr ((w.setCell ⟨R,5,none⟩ (.int .i64 (c:Nat))).alloc (.cells #[.int .i64 0,.int .i64 0,.string ⟨#[]⟩,.slice none 0 0,.slice none 0 0] 29)) W->Blk W w.heap.size zero5 29):=LH (λW hW=>by
  have:=Blk.made (w.setCell ⟨R,5,none⟩ (.int .i64 (c:Nat))) zero5 29;rw [show (w.setCell ⟨R,5,none⟩ (.int .i64 (c:Nat))).heap.size=w.heap.size by simp [World.setCell]] at this;exact this.keep hW)
 clear h ht;go_enter Tryz.func54,Tryz.ntmps54
 go_wp2_with (go_at_call 73;refine (token_at R e ts i p 0 c t HT.out _ (by first | exact (HP1 _).out | exact (HP2 _).out) hl).mono ?_;rintro x w1 ⟨rfl,hf⟩;have HP3:=LH (Prs.keep (by first | exact (HP1 _).out | exact (HP2 _).out) hf);have c4:=HP3.out.cells.1.2.2.1;have fz1:=HP3.out.cells.2;have hzz:=HZ.out w1 hf;obtain ⟨⟨b0,b1,b2,b3,b4⟩,g0,g1,g2,g3,g4⟩:=box5 hzz;have HZ1:=LH hzz;have HF1:=LH hf;clear hf hzz)
 have hXR:¬ w.heap.size=R:=by omega
 have hz7:Blk (w1.setCell ⟨R,4,none⟩ (.int .i64 (t.at_:Nat))) w.heap.size zero5 29:=HZ1.out.other (by show R≠w.heap.size;omega) _;refine bodyPost_ret (results_cell_row (by rfl) _ _ w.heap.size 29 _ (0,0) _ (by rfl) (set5 hz7) Tryz.underlying29 rfl (by kernel_rfl)) rfl ?_;have hRw:∀ j,R<(Addr.mk w.heap.size j none).block:=λj=>hR
 have hSw:∀ j,w.heap.size<=(Addr.mk w.heap.size j none).block:=λj=>lR _
 refine ⟨rfl,?_,?_⟩
 ·exact (((((HP3.out.setA rfl).setY (hRw _) _).setY (hRw _) _).setY (hRw _) _).setY (hRw _) _).setY (hRw _) _
 ·exact ((((((((FrX.refl R w).setCell rfl _).alloc _).fr HF1.out).setCell rfl _).setNew (hSw _) _).setNew (hSw _) _).setNew (hSw _) _).setNew (hSw _) _ |>.setNew (hSw _) _
/- The walk of the document's reader: a value that is no list and no map. -/

def PVP (R e:Nat) (ts:List Scn.Tok) (w:World):Rd.R->Ending->World->Prop
 | .out,_,_=>False
 | .bad a c,x,w'=>∃ (u:JV) (k n:Int) (s:ByteArray) (A:Option Addr) (a1 b:Nat) (A':Option Addr) (a' b':Nat),x=.returned (.agg #[.int .i64 k,.int .i64 n,.string s,.slice A a1 b,.slice A' a' b'])/\InV w' (Be w.heap.size w'.heap.size) u (.agg #[.int .i64 k,.int .i64 n,.string s,.slice A a1 b,.slice A' a' b'])/\(∃ i p,Prs w' R e ts i p a c)/\c≠0/\FrX R w w'
 | .ok v l p,x,w'=>∃ (k n:Int) (s:ByteArray) (A:Option Addr) (a1 b:Nat) (A':Option Addr) (a' b':Nat),x=.returned (.agg #[.int .i64 k,.int .i64 n,.string s,.slice A a1 b,.slice A' a' b'])/\InV w' (Be w.heap.size w'.heap.size) v (.agg #[.int .i64 k,.int .i64 n,.string s,.slice A a1 b,.slice A' a' b'])/\(∃ i,Prs w' R e ts i p 0 0/\ts.drop i=l)/\FrX R w w'
theorem PVP.zero {R e:Nat} {ts:List Scn.Tok} {w w':World} {a c i p:Nat} (h:Prs w' R e ts i p a c) (hc:c≠0) (hf:FrX R w w'):PVP R e ts w (.bad a c) (.returned (.agg #[.int .i64 0,.int .i64 0,.string ⟨#[]⟩,.slice none 0 0,.slice none 0 0])) w':=
 ⟨_,0,0,⟨#[]⟩,none,0,0,none,0,0,rfl,InV.leaf _ _ 0 0 [] none none 0 0 (by decide) (by decide) (by decide) (by decide) (by simp),⟨i,p,h⟩,hc,hf⟩

theorem pval_bad (f R e:Nat) (ts:List Scn.Tok) (i:Nat) (k:Nat) (n:Int) (s:List UInt8) (a:Nat) (d p:Nat) (w:World) (h:Prs w R e ts i p 0 0) (hl:ts.length<=140737488355328) (hp:p<=8192) (ht:Rd.next e (ts.drop i)=⟨k,n,s,a⟩) (hb:Rd.leaf ⟨k,n,s,a⟩=none/\Rd.isM ⟨k,n,s,a⟩ 91=false/\Rd.isM ⟨k,n,s,a⟩ 123=false) (hk:k<=4):
  Calls Tryz.prog 53 #[.pointer (some ⟨R,0,none⟩),.int .i64 (d:Nat)] w (PVP R e ts w (Rd.rdV (f+1) e ⟨k,n,s,a⟩ (ts.drop i).tail d p)):=by
 rw [Rd.rdV_succ,if_pos hb];obtain ⟨h1,h2,h3⟩:=hb;have hk01:k=0\/k=1:=by
  have k4:k≠4:=by intro hk;simp [Rd.leaf,hk] at h1
  have k3:k≠3:=by intro hk;simp [Rd.leaf,hk] at h1
  have k2:k≠2:=by
   intro hk;unfold Rd.leaf at h1;simp only at h1;rw [if_neg k4,if_neg k3,if_pos hk] at h1;split at h1
   ·cases h1
   split at h1
   ·cases h1
   ·cases h1
  omega
 have HP:=LH h;have HT:=LH ht;have hR:=h.lt;have hn:¬ R=w.heap.size:=by omega
 have hXR:¬ w.heap.size=R:=by omega
 clear h ht;rcases hk01 with rfl | rfl
 ·clear h1 h2 h3;go_enter Tryz.func53,Tryz.ntmps53
  go_wp2_with (first
   | (go_at_call 54;have hm:=HP1.out;refine (fail_is R e ts i p 50 _ (hm.keep ((FR _).alloc _)) hl 50 rfl ⟨0,n,s,a⟩ HT.out).mono ?_;rintro x w2 ⟨rfl,hp2,hf⟩;have hb2:=(HB1.out.keep ((FR _).alloc _)).frx hf hXR;obtain ⟨⟨a0,a1,a2,a3,a4⟩,g0,g1,g2,g3,g4⟩:=box5 hb2;have HB2:=LH hb2;have HP2:=LH hp2;have HF2:=LH ((FrX.of (C:=R) (HF1.out.alloc _)).trans hf);clear hf hb2 hp2 hm)
   | (go_at_call 73;refine (token_at R e ts i p 0 0 ⟨0,n,s,a⟩ HT.out _ (HP.out.keep ((FR w).alloc _)) hl).mono ?_;rintro x w1 ⟨rfl,hf⟩;have hp1:=(HP.out.keep ((FR w).alloc _)).keep hf;have c2:∀ ob,(w1.alloc ob).cell? ⟨R,2,none⟩=some (.int .i64 (i:Nat)):=(λob=>(hp1.keep ((FR _).alloc ob)).cells.1.1);have c3:∀ ob,(w1.alloc ob).cell? ⟨R,3,none⟩=some (.int .i64 (p:Nat)):=(λob=>(hp1.keep ((FR _).alloc ob)).cells.1.2.1);have fz:∀ ob j,(w1.alloc ob).frozen? ⟨R,j,none⟩=false:=(λob j=>(hp1.keep ((FR _).alloc ob)).cells.2 j);have hb1:=(Blk.made w #[.int .i64 0,.int .i64 0,.string ⟨#[]⟩,.slice none 0 0,.slice none 0 0] 29).keep hf;have hlt1:w.heap.size<w1.heap.size:=hb1.lt;have y0:∀ ob,(w1.alloc ob).cell? ⟨w.heap.size,0,none⟩=some (.int .i64 0):=(λob=>(hb1.keep ((FR _).alloc ob)).cell 0);have y1:∀ ob,(w1.alloc ob).cell? ⟨w.heap.size,1,none⟩=some (.int .i64 0):=(λob=>(hb1.keep ((FR _).alloc ob)).cell 1);have y2:∀ ob,(w1.alloc ob).cell? ⟨w.heap.size,2,none⟩=some (.string ⟨#[]⟩):=(λob=>(hb1.keep ((FR _).alloc ob)).cell 2);have y3:∀ ob,(w1.alloc ob).cell? ⟨w.heap.size,3,none⟩=some (.slice none 0 0):=(λob=>(hb1.keep ((FR _).alloc ob)).cell 3);have y4:∀ ob,(w1.alloc ob).cell? ⟨w.heap.size,4,none⟩=some (.slice none 0 0):=(λob=>(hb1.keep ((FR _).alloc ob)).cell 4);have yz:∀ ob j,(w1.alloc ob).frozen? ⟨w.heap.size,j,none⟩=false:=(λob j=>(hb1.keep ((FR _).alloc ob)).free j);have HP1:=LH hp1;have HB1:=LH hb1;have HF1:=LH (((FR w).alloc (.cells #[.int .i64 0,.int .i64 0,.string ⟨#[]⟩,.slice none 0 0,.slice none 0 0] 29)).trans hf);clear hf hp1 hb1))
  refine bodyPost_ret (results_cell_row (by rfl) _ _ w.heap.size 29 _ (0,0) _ (by rfl) (set5 HB2.out) Tryz.underlying29 rfl (by kernel_rfl)) rfl ?_;have hRw:∀ j,R<(Addr.mk w.heap.size j none).block:=λj=>hR
  have hSw:∀ j,w.heap.size<=(Addr.mk w.heap.size j none).block:=λj=>lR _
  exact PVP.zero (((((HP2.out.setY (hRw _) _).setY (hRw _) _).setY (hRw _) _).setY (hRw _) _).setY (hRw _) _) (by decide) (((((HF2.out.setNew (hSw _) _).setNew (hSw _) _).setNew (hSw _) _).setNew (hSw _) _).setNew (hSw _) _)
 ·have e1:((⟨s.toArray⟩:ByteArray).toList != (⟨#[91]⟩:ByteArray).toList)=true:=by
   have:s≠[91]:=by simpa [Rd.isM] using h2
   rw [ByteArray.toList_eq,ByteArray.toList_eq];simpa using this
  have e2:((⟨s.toArray⟩:ByteArray).toList != (⟨#[123]⟩:ByteArray).toList)=true:=by
   have:s≠[123]:=by simpa [Rd.isM] using h3
   rw [ByteArray.toList_eq,ByteArray.toList_eq];simpa using this
  have e3:(s != [91])=true:=by
   have:s≠[91]:=by simpa [Rd.isM] using h2
   simpa using this
  have e4:(s != [123])=true:=by
   have:s≠[123]:=by simpa [Rd.isM] using h3
   simpa using this
  have e5:(s == [91])=false:=by simpa using e3
  have e6:(s == [123])=false:=by simpa using e4
  clear h1 h2 h3;go_enter Tryz.func53,Tryz.ntmps53
  go_wp2_with (first
   | (go_at_call 54;have hm:=HP1.out;refine (fail_is R e ts i p 50 _ (hm.keep ((FR _).alloc _)) hl 50 rfl ⟨1,n,s,a⟩ HT.out).mono ?_;rintro x w2 ⟨rfl,hp2,hf⟩;have hb2:=(HB1.out.keep ((FR _).alloc _)).frx hf hXR;obtain ⟨⟨a0,a1,a2,a3,a4⟩,g0,g1,g2,g3,g4⟩:=box5 hb2;have HB2:=LH hb2;have HP2:=LH hp2;have HF2:=LH ((FrX.of (C:=R) (HF1.out.alloc _)).trans hf);clear hf hb2 hp2 hm)
   | (go_at_call 73;refine (token_at R e ts i p 0 0 ⟨1,n,s,a⟩ HT.out _ (HP.out.keep ((FR w).alloc _)) hl).mono ?_;rintro x w1 ⟨rfl,hf⟩;have hp1:=(HP.out.keep ((FR w).alloc _)).keep hf;have c2:∀ ob,(w1.alloc ob).cell? ⟨R,2,none⟩=some (.int .i64 (i:Nat)):=(λob=>(hp1.keep ((FR _).alloc ob)).cells.1.1);have c3:∀ ob,(w1.alloc ob).cell? ⟨R,3,none⟩=some (.int .i64 (p:Nat)):=(λob=>(hp1.keep ((FR _).alloc ob)).cells.1.2.1);have fz:∀ ob j,(w1.alloc ob).frozen? ⟨R,j,none⟩=false:=(λob j=>(hp1.keep ((FR _).alloc ob)).cells.2 j);have hb1:=(Blk.made w #[.int .i64 0,.int .i64 0,.string ⟨#[]⟩,.slice none 0 0,.slice none 0 0] 29).keep hf;have hlt1:w.heap.size<w1.heap.size:=hb1.lt;have y0:∀ ob,(w1.alloc ob).cell? ⟨w.heap.size,0,none⟩=some (.int .i64 0):=(λob=>(hb1.keep ((FR _).alloc ob)).cell 0);have y1:∀ ob,(w1.alloc ob).cell? ⟨w.heap.size,1,none⟩=some (.int .i64 0):=(λob=>(hb1.keep ((FR _).alloc ob)).cell 1);have y2:∀ ob,(w1.alloc ob).cell? ⟨w.heap.size,2,none⟩=some (.string ⟨#[]⟩):=(λob=>(hb1.keep ((FR _).alloc ob)).cell 2);have y3:∀ ob,(w1.alloc ob).cell? ⟨w.heap.size,3,none⟩=some (.slice none 0 0):=(λob=>(hb1.keep ((FR _).alloc ob)).cell 3);have y4:∀ ob,(w1.alloc ob).cell? ⟨w.heap.size,4,none⟩=some (.slice none 0 0):=(λob=>(hb1.keep ((FR _).alloc ob)).cell 4);have yz:∀ ob j,(w1.alloc ob).frozen? ⟨w.heap.size,j,none⟩=false:=(λob j=>(hb1.keep ((FR _).alloc ob)).free j);have HP1:=LH hp1;have HB1:=LH hb1;have HF1:=LH (((FR w).alloc (.cells #[.int .i64 0,.int .i64 0,.string ⟨#[]⟩,.slice none 0 0,.slice none 0 0] 29)).trans hf);clear hf hp1 hb1))
  refine bodyPost_ret (results_cell_row (by rfl) _ _ w.heap.size 29 _ (0,0) _ (by rfl) (set5 HB2.out) Tryz.underlying29 rfl (by kernel_rfl)) rfl ?_;have hRw:∀ j,R<(Addr.mk w.heap.size j none).block:=λj=>hR
  have hSw:∀ j,w.heap.size<=(Addr.mk w.heap.size j none).block:=λj=>lR _
  exact PVP.zero (((((HP2.out.setY (hRw _) _).setY (hRw _) _).setY (hRw _) _).setY (hRw _) _).setY (hRw _) _) (by decide) (((((HF2.out.setNew (hSw _) _).setNew (hSw _) _).setNew (hSw _) _).setNew (hSw _) _).setNew (hSw _) _)
theorem pval_deep (f R e:Nat) (ts:List Scn.Tok) (i:Nat) (k:Nat) (n:Int) (s:List UInt8) (a:Nat) (d p:Nat) (w:World) (h:Prs w R e ts i p 0 0) (hl:ts.length<=140737488355328) (hp:p<=8192) (ht:Rd.next e (ts.drop i)=⟨k,n,s,a⟩) (hb:¬ (Rd.leaf ⟨k,n,s,a⟩=none/\Rd.isM ⟨k,n,s,a⟩ 91=false/\Rd.isM ⟨k,n,s,a⟩ 123=false)) (hg:((k=2\/k=3\/k=4)\/(k=1/\(s=[91]\/s=[123])))) (hd:16<d):
  Calls Tryz.prog 53 #[.pointer (some ⟨R,0,none⟩),.int .i64 (d:Nat)] w (PVP R e ts w (Rd.rdV (f+1) e ⟨k,n,s,a⟩ (ts.drop i).tail d p)):=by
 rw [Rd.rdV_succ,if_neg hb,if_pos hd];have d1:decide ((16:Int)<(d:Int))=true:=dT (by omega);have d2:decide (16<d)=true:=dT (by omega);clear hb;have HP:=LH h;have HT:=LH ht;have hR:=h.lt;have hn:¬ R=w.heap.size:=by omega
 have hXR:¬ w.heap.size=R:=by omega
 clear h ht;rcases hg with (rfl | rfl | rfl) | ⟨rfl,rfl | rfl⟩
 ·go_enter Tryz.func53,Tryz.ntmps53
  go_wp2_with (first
   | (go_at_call 54;have hm:=HP1.out;refine (fail_is R e ts i p 51 _ (hm.keep ((FR _).alloc _)) hl 51 rfl ⟨2,n,s,a⟩ HT.out).mono ?_;rintro x w2 ⟨rfl,hp2,hf⟩;have hb2:=(HB1.out.keep ((FR _).alloc _)).frx hf hXR;obtain ⟨⟨a0,a1,a2,a3,a4⟩,g0,g1,g2,g3,g4⟩:=box5 hb2;have HB2:=LH hb2;have HP2:=LH hp2;have HF2:=LH ((FrX.of (C:=R) (HF1.out.alloc _)).trans hf);clear hf hb2 hp2 hm)
   | (go_at_call 73;refine (token_at R e ts i p 0 0 ⟨2,n,s,a⟩ HT.out _ (HP.out.keep ((FR w).alloc _)) hl).mono ?_;rintro x w1 ⟨rfl,hf⟩;have hp1:=(HP.out.keep ((FR w).alloc _)).keep hf;have c2:∀ ob,(w1.alloc ob).cell? ⟨R,2,none⟩=some (.int .i64 (i:Nat)):=(λob=>(hp1.keep ((FR _).alloc ob)).cells.1.1);have c3:∀ ob,(w1.alloc ob).cell? ⟨R,3,none⟩=some (.int .i64 (p:Nat)):=(λob=>(hp1.keep ((FR _).alloc ob)).cells.1.2.1);have fz:∀ ob j,(w1.alloc ob).frozen? ⟨R,j,none⟩=false:=(λob j=>(hp1.keep ((FR _).alloc ob)).cells.2 j);have hb1:=(Blk.made w #[.int .i64 0,.int .i64 0,.string ⟨#[]⟩,.slice none 0 0,.slice none 0 0] 29).keep hf;have hlt1:w.heap.size<w1.heap.size:=hb1.lt;have y0:∀ ob,(w1.alloc ob).cell? ⟨w.heap.size,0,none⟩=some (.int .i64 0):=(λob=>(hb1.keep ((FR _).alloc ob)).cell 0);have y1:∀ ob,(w1.alloc ob).cell? ⟨w.heap.size,1,none⟩=some (.int .i64 0):=(λob=>(hb1.keep ((FR _).alloc ob)).cell 1);have y2:∀ ob,(w1.alloc ob).cell? ⟨w.heap.size,2,none⟩=some (.string ⟨#[]⟩):=(λob=>(hb1.keep ((FR _).alloc ob)).cell 2);have y3:∀ ob,(w1.alloc ob).cell? ⟨w.heap.size,3,none⟩=some (.slice none 0 0):=(λob=>(hb1.keep ((FR _).alloc ob)).cell 3);have y4:∀ ob,(w1.alloc ob).cell? ⟨w.heap.size,4,none⟩=some (.slice none 0 0):=(λob=>(hb1.keep ((FR _).alloc ob)).cell 4);have yz:∀ ob j,(w1.alloc ob).frozen? ⟨w.heap.size,j,none⟩=false:=(λob j=>(hb1.keep ((FR _).alloc ob)).free j);have HP1:=LH hp1;have HB1:=LH hb1;have HF1:=LH (((FR w).alloc (.cells #[.int .i64 0,.int .i64 0,.string ⟨#[]⟩,.slice none 0 0,.slice none 0 0] 29)).trans hf);clear hf hp1 hb1))
  refine bodyPost_ret (results_cell_row (by rfl) _ _ w.heap.size 29 _ (0,0) _ (by rfl) (set5 HB2.out) Tryz.underlying29 rfl (by kernel_rfl)) rfl ?_;have hRw:∀ j,R<(Addr.mk w.heap.size j none).block:=λj=>hR
  have hSw:∀ j,w.heap.size<=(Addr.mk w.heap.size j none).block:=λj=>lR _
  exact PVP.zero (((((HP2.out.setY (hRw _) _).setY (hRw _) _).setY (hRw _) _).setY (hRw _) _).setY (hRw _) _) (by decide) (((((HF2.out.setNew (hSw _) _).setNew (hSw _) _).setNew (hSw _) _).setNew (hSw _) _).setNew (hSw _) _)
 ·go_enter Tryz.func53,Tryz.ntmps53
  go_wp2_with (first
   | (go_at_call 54;have hm:=HP1.out;refine (fail_is R e ts i p 51 _ (hm.keep ((FR _).alloc _)) hl 51 rfl ⟨3,n,s,a⟩ HT.out).mono ?_;rintro x w2 ⟨rfl,hp2,hf⟩;have hb2:=(HB1.out.keep ((FR _).alloc _)).frx hf hXR;obtain ⟨⟨a0,a1,a2,a3,a4⟩,g0,g1,g2,g3,g4⟩:=box5 hb2;have HB2:=LH hb2;have HP2:=LH hp2;have HF2:=LH ((FrX.of (C:=R) (HF1.out.alloc _)).trans hf);clear hf hb2 hp2 hm)
   | (go_at_call 73;refine (token_at R e ts i p 0 0 ⟨3,n,s,a⟩ HT.out _ (HP.out.keep ((FR w).alloc _)) hl).mono ?_;rintro x w1 ⟨rfl,hf⟩;have hp1:=(HP.out.keep ((FR w).alloc _)).keep hf;have c2:∀ ob,(w1.alloc ob).cell? ⟨R,2,none⟩=some (.int .i64 (i:Nat)):=(λob=>(hp1.keep ((FR _).alloc ob)).cells.1.1);have c3:∀ ob,(w1.alloc ob).cell? ⟨R,3,none⟩=some (.int .i64 (p:Nat)):=(λob=>(hp1.keep ((FR _).alloc ob)).cells.1.2.1);have fz:∀ ob j,(w1.alloc ob).frozen? ⟨R,j,none⟩=false:=(λob j=>(hp1.keep ((FR _).alloc ob)).cells.2 j);have hb1:=(Blk.made w #[.int .i64 0,.int .i64 0,.string ⟨#[]⟩,.slice none 0 0,.slice none 0 0] 29).keep hf;have hlt1:w.heap.size<w1.heap.size:=hb1.lt;have y0:∀ ob,(w1.alloc ob).cell? ⟨w.heap.size,0,none⟩=some (.int .i64 0):=(λob=>(hb1.keep ((FR _).alloc ob)).cell 0);have y1:∀ ob,(w1.alloc ob).cell? ⟨w.heap.size,1,none⟩=some (.int .i64 0):=(λob=>(hb1.keep ((FR _).alloc ob)).cell 1);have y2:∀ ob,(w1.alloc ob).cell? ⟨w.heap.size,2,none⟩=some (.string ⟨#[]⟩):=(λob=>(hb1.keep ((FR _).alloc ob)).cell 2);have y3:∀ ob,(w1.alloc ob).cell? ⟨w.heap.size,3,none⟩=some (.slice none 0 0):=(λob=>(hb1.keep ((FR _).alloc ob)).cell 3);have y4:∀ ob,(w1.alloc ob).cell? ⟨w.heap.size,4,none⟩=some (.slice none 0 0):=(λob=>(hb1.keep ((FR _).alloc ob)).cell 4);have yz:∀ ob j,(w1.alloc ob).frozen? ⟨w.heap.size,j,none⟩=false:=(λob j=>(hb1.keep ((FR _).alloc ob)).free j);have HP1:=LH hp1;have HB1:=LH hb1;have HF1:=LH (((FR w).alloc (.cells #[.int .i64 0,.int .i64 0,.string ⟨#[]⟩,.slice none 0 0,.slice none 0 0] 29)).trans hf);clear hf hp1 hb1))
  refine bodyPost_ret (results_cell_row (by rfl) _ _ w.heap.size 29 _ (0,0) _ (by rfl) (set5 HB2.out) Tryz.underlying29 rfl (by kernel_rfl)) rfl ?_;have hRw:∀ j,R<(Addr.mk w.heap.size j none).block:=λj=>hR
  have hSw:∀ j,w.heap.size<=(Addr.mk w.heap.size j none).block:=λj=>lR _
  exact PVP.zero (((((HP2.out.setY (hRw _) _).setY (hRw _) _).setY (hRw _) _).setY (hRw _) _).setY (hRw _) _) (by decide) (((((HF2.out.setNew (hSw _) _).setNew (hSw _) _).setNew (hSw _) _).setNew (hSw _) _).setNew (hSw _) _)
 ·go_enter Tryz.func53,Tryz.ntmps53
  go_wp2_with (first
   | (go_at_call 54;have hm:=HP1.out;refine (fail_is R e ts i p 51 _ (hm.keep ((FR _).alloc _)) hl 51 rfl ⟨4,n,s,a⟩ HT.out).mono ?_;rintro x w2 ⟨rfl,hp2,hf⟩;have hb2:=(HB1.out.keep ((FR _).alloc _)).frx hf hXR;obtain ⟨⟨a0,a1,a2,a3,a4⟩,g0,g1,g2,g3,g4⟩:=box5 hb2;have HB2:=LH hb2;have HP2:=LH hp2;have HF2:=LH ((FrX.of (C:=R) (HF1.out.alloc _)).trans hf);clear hf hb2 hp2 hm)
   | (go_at_call 73;refine (token_at R e ts i p 0 0 ⟨4,n,s,a⟩ HT.out _ (HP.out.keep ((FR w).alloc _)) hl).mono ?_;rintro x w1 ⟨rfl,hf⟩;have hp1:=(HP.out.keep ((FR w).alloc _)).keep hf;have c2:∀ ob,(w1.alloc ob).cell? ⟨R,2,none⟩=some (.int .i64 (i:Nat)):=(λob=>(hp1.keep ((FR _).alloc ob)).cells.1.1);have c3:∀ ob,(w1.alloc ob).cell? ⟨R,3,none⟩=some (.int .i64 (p:Nat)):=(λob=>(hp1.keep ((FR _).alloc ob)).cells.1.2.1);have fz:∀ ob j,(w1.alloc ob).frozen? ⟨R,j,none⟩=false:=(λob j=>(hp1.keep ((FR _).alloc ob)).cells.2 j);have hb1:=(Blk.made w #[.int .i64 0,.int .i64 0,.string ⟨#[]⟩,.slice none 0 0,.slice none 0 0] 29).keep hf;have hlt1:w.heap.size<w1.heap.size:=hb1.lt;have y0:∀ ob,(w1.alloc ob).cell? ⟨w.heap.size,0,none⟩=some (.int .i64 0):=(λob=>(hb1.keep ((FR _).alloc ob)).cell 0);have y1:∀ ob,(w1.alloc ob).cell? ⟨w.heap.size,1,none⟩=some (.int .i64 0):=(λob=>(hb1.keep ((FR _).alloc ob)).cell 1);have y2:∀ ob,(w1.alloc ob).cell? ⟨w.heap.size,2,none⟩=some (.string ⟨#[]⟩):=(λob=>(hb1.keep ((FR _).alloc ob)).cell 2);have y3:∀ ob,(w1.alloc ob).cell? ⟨w.heap.size,3,none⟩=some (.slice none 0 0):=(λob=>(hb1.keep ((FR _).alloc ob)).cell 3);have y4:∀ ob,(w1.alloc ob).cell? ⟨w.heap.size,4,none⟩=some (.slice none 0 0):=(λob=>(hb1.keep ((FR _).alloc ob)).cell 4);have yz:∀ ob j,(w1.alloc ob).frozen? ⟨w.heap.size,j,none⟩=false:=(λob j=>(hb1.keep ((FR _).alloc ob)).free j);have HP1:=LH hp1;have HB1:=LH hb1;have HF1:=LH (((FR w).alloc (.cells #[.int .i64 0,.int .i64 0,.string ⟨#[]⟩,.slice none 0 0,.slice none 0 0] 29)).trans hf);clear hf hp1 hb1))
  refine bodyPost_ret (results_cell_row (by rfl) _ _ w.heap.size 29 _ (0,0) _ (by rfl) (set5 HB2.out) Tryz.underlying29 rfl (by kernel_rfl)) rfl ?_;have hRw:∀ j,R<(Addr.mk w.heap.size j none).block:=λj=>hR
  have hSw:∀ j,w.heap.size<=(Addr.mk w.heap.size j none).block:=λj=>lR _
  exact PVP.zero (((((HP2.out.setY (hRw _) _).setY (hRw _) _).setY (hRw _) _).setY (hRw _) _).setY (hRw _) _) (by decide) (((((HF2.out.setNew (hSw _) _).setNew (hSw _) _).setNew (hSw _) _).setNew (hSw _) _).setNew (hSw _) _)
 ·go_enter Tryz.func53,Tryz.ntmps53
  go_wp2_with (first
   | (go_at_call 54;have hm:=HP1.out;refine (fail_is R e ts i p 51 _ (hm.keep ((FR _).alloc _)) hl 51 rfl ⟨1,n,[91],a⟩ HT.out).mono ?_;rintro x w2 ⟨rfl,hp2,hf⟩;have hb2:=(HB1.out.keep ((FR _).alloc _)).frx hf hXR;obtain ⟨⟨a0,a1,a2,a3,a4⟩,g0,g1,g2,g3,g4⟩:=box5 hb2;have HB2:=LH hb2;have HP2:=LH hp2;have HF2:=LH ((FrX.of (C:=R) (HF1.out.alloc _)).trans hf);clear hf hb2 hp2 hm)
   | (go_at_call 73;refine (token_at R e ts i p 0 0 ⟨1,n,[91],a⟩ HT.out _ (HP.out.keep ((FR w).alloc _)) hl).mono ?_;rintro x w1 ⟨rfl,hf⟩;have hp1:=(HP.out.keep ((FR w).alloc _)).keep hf;have c2:∀ ob,(w1.alloc ob).cell? ⟨R,2,none⟩=some (.int .i64 (i:Nat)):=(λob=>(hp1.keep ((FR _).alloc ob)).cells.1.1);have c3:∀ ob,(w1.alloc ob).cell? ⟨R,3,none⟩=some (.int .i64 (p:Nat)):=(λob=>(hp1.keep ((FR _).alloc ob)).cells.1.2.1);have fz:∀ ob j,(w1.alloc ob).frozen? ⟨R,j,none⟩=false:=(λob j=>(hp1.keep ((FR _).alloc ob)).cells.2 j);have hb1:=(Blk.made w #[.int .i64 0,.int .i64 0,.string ⟨#[]⟩,.slice none 0 0,.slice none 0 0] 29).keep hf;have hlt1:w.heap.size<w1.heap.size:=hb1.lt;have y0:∀ ob,(w1.alloc ob).cell? ⟨w.heap.size,0,none⟩=some (.int .i64 0):=(λob=>(hb1.keep ((FR _).alloc ob)).cell 0);have y1:∀ ob,(w1.alloc ob).cell? ⟨w.heap.size,1,none⟩=some (.int .i64 0):=(λob=>(hb1.keep ((FR _).alloc ob)).cell 1);have y2:∀ ob,(w1.alloc ob).cell? ⟨w.heap.size,2,none⟩=some (.string ⟨#[]⟩):=(λob=>(hb1.keep ((FR _).alloc ob)).cell 2);have y3:∀ ob,(w1.alloc ob).cell? ⟨w.heap.size,3,none⟩=some (.slice none 0 0):=(λob=>(hb1.keep ((FR _).alloc ob)).cell 3);have y4:∀ ob,(w1.alloc ob).cell? ⟨w.heap.size,4,none⟩=some (.slice none 0 0):=(λob=>(hb1.keep ((FR _).alloc ob)).cell 4);have yz:∀ ob j,(w1.alloc ob).frozen? ⟨w.heap.size,j,none⟩=false:=(λob j=>(hb1.keep ((FR _).alloc ob)).free j);have HP1:=LH hp1;have HB1:=LH hb1;have HF1:=LH (((FR w).alloc (.cells #[.int .i64 0,.int .i64 0,.string ⟨#[]⟩,.slice none 0 0,.slice none 0 0] 29)).trans hf);clear hf hp1 hb1))
  refine bodyPost_ret (results_cell_row (by rfl) _ _ w.heap.size 29 _ (0,0) _ (by rfl) (set5 HB2.out) Tryz.underlying29 rfl (by kernel_rfl)) rfl ?_;have hRw:∀ j,R<(Addr.mk w.heap.size j none).block:=λj=>hR
  have hSw:∀ j,w.heap.size<=(Addr.mk w.heap.size j none).block:=λj=>lR _
  exact PVP.zero (((((HP2.out.setY (hRw _) _).setY (hRw _) _).setY (hRw _) _).setY (hRw _) _).setY (hRw _) _) (by decide) (((((HF2.out.setNew (hSw _) _).setNew (hSw _) _).setNew (hSw _) _).setNew (hSw _) _).setNew (hSw _) _)
 ·go_enter Tryz.func53,Tryz.ntmps53
  go_wp2_with (first
   | (go_at_call 54;have hm:=HP1.out;refine (fail_is R e ts i p 51 _ (hm.keep ((FR _).alloc _)) hl 51 rfl ⟨1,n,[123],a⟩ HT.out).mono ?_;rintro x w2 ⟨rfl,hp2,hf⟩;have hb2:=(HB1.out.keep ((FR _).alloc _)).frx hf hXR;obtain ⟨⟨a0,a1,a2,a3,a4⟩,g0,g1,g2,g3,g4⟩:=box5 hb2;have HB2:=LH hb2;have HP2:=LH hp2;have HF2:=LH ((FrX.of (C:=R) (HF1.out.alloc _)).trans hf);clear hf hb2 hp2 hm)
   | (go_at_call 73;refine (token_at R e ts i p 0 0 ⟨1,n,[123],a⟩ HT.out _ (HP.out.keep ((FR w).alloc _)) hl).mono ?_;rintro x w1 ⟨rfl,hf⟩;have hp1:=(HP.out.keep ((FR w).alloc _)).keep hf;have c2:∀ ob,(w1.alloc ob).cell? ⟨R,2,none⟩=some (.int .i64 (i:Nat)):=(λob=>(hp1.keep ((FR _).alloc ob)).cells.1.1);have c3:∀ ob,(w1.alloc ob).cell? ⟨R,3,none⟩=some (.int .i64 (p:Nat)):=(λob=>(hp1.keep ((FR _).alloc ob)).cells.1.2.1);have fz:∀ ob j,(w1.alloc ob).frozen? ⟨R,j,none⟩=false:=(λob j=>(hp1.keep ((FR _).alloc ob)).cells.2 j);have hb1:=(Blk.made w #[.int .i64 0,.int .i64 0,.string ⟨#[]⟩,.slice none 0 0,.slice none 0 0] 29).keep hf;have hlt1:w.heap.size<w1.heap.size:=hb1.lt;have y0:∀ ob,(w1.alloc ob).cell? ⟨w.heap.size,0,none⟩=some (.int .i64 0):=(λob=>(hb1.keep ((FR _).alloc ob)).cell 0);have y1:∀ ob,(w1.alloc ob).cell? ⟨w.heap.size,1,none⟩=some (.int .i64 0):=(λob=>(hb1.keep ((FR _).alloc ob)).cell 1);have y2:∀ ob,(w1.alloc ob).cell? ⟨w.heap.size,2,none⟩=some (.string ⟨#[]⟩):=(λob=>(hb1.keep ((FR _).alloc ob)).cell 2);have y3:∀ ob,(w1.alloc ob).cell? ⟨w.heap.size,3,none⟩=some (.slice none 0 0):=(λob=>(hb1.keep ((FR _).alloc ob)).cell 3);have y4:∀ ob,(w1.alloc ob).cell? ⟨w.heap.size,4,none⟩=some (.slice none 0 0):=(λob=>(hb1.keep ((FR _).alloc ob)).cell 4);have yz:∀ ob j,(w1.alloc ob).frozen? ⟨w.heap.size,j,none⟩=false:=(λob j=>(hb1.keep ((FR _).alloc ob)).free j);have HP1:=LH hp1;have HB1:=LH hb1;have HF1:=LH (((FR w).alloc (.cells #[.int .i64 0,.int .i64 0,.string ⟨#[]⟩,.slice none 0 0,.slice none 0 0] 29)).trans hf);clear hf hp1 hb1))
  refine bodyPost_ret (results_cell_row (by rfl) _ _ w.heap.size 29 _ (0,0) _ (by rfl) (set5 HB2.out) Tryz.underlying29 rfl (by kernel_rfl)) rfl ?_;have hRw:∀ j,R<(Addr.mk w.heap.size j none).block:=λj=>hR
  have hSw:∀ j,w.heap.size<=(Addr.mk w.heap.size j none).block:=λj=>lR _
  exact PVP.zero (((((HP2.out.setY (hRw _) _).setY (hRw _) _).setY (hRw _) _).setY (hRw _) _).setY (hRw _) _) (by decide) (((((HF2.out.setNew (hSw _) _).setNew (hSw _) _).setNew (hSw _) _).setNew (hSw _) _).setNew (hSw _) _)

theorem pval_many (f R e:Nat) (ts:List Scn.Tok) (i:Nat) (k:Nat) (n:Int) (s:List UInt8) (a:Nat) (d p:Nat) (w:World) (h:Prs w R e ts i p 0 0) (hl:ts.length<=140737488355328) (hp:p<=8192) (ht:Rd.next e (ts.drop i)=⟨k,n,s,a⟩) (hb:¬ (Rd.leaf ⟨k,n,s,a⟩=none/\Rd.isM ⟨k,n,s,a⟩ 91=false/\Rd.isM ⟨k,n,s,a⟩ 123=false)) (hg:((k=2\/k=3\/k=4)\/(k=1/\(s=[91]\/s=[123])))) (hd:¬ 16<d) (h8:8192<=p):
  Calls Tryz.prog 53 #[.pointer (some ⟨R,0,none⟩),.int .i64 (d:Nat)] w (PVP R e ts w (Rd.rdV (f+1) e ⟨k,n,s,a⟩ (ts.drop i).tail d p)):=by
 rw [Rd.rdV_succ,if_neg hb,if_neg hd,if_pos h8];obtain rfl:p=8192:=by omega
 have d1:decide ((16:Int)<(d:Int))=false:=dF (by omega);have d2:decide (16<d)=false:=dF (by omega);clear hb;have HP:=LH h;have HT:=LH ht;have hR:=h.lt;have hn:¬ R=w.heap.size:=by omega
 have hXR:¬ w.heap.size=R:=by omega
 clear h ht;rcases hg with (rfl | rfl | rfl) | ⟨rfl,rfl | rfl⟩
 ·go_enter Tryz.func53,Tryz.ntmps53
  go_wp2_with (first
   | (go_at_call 54;have hm:=HP1.out;refine (fail_is R e ts i 8192 53 _ (hm.keep ((FR _).alloc _)) hl 53 rfl ⟨2,n,s,a⟩ HT.out).mono ?_;rintro x w2 ⟨rfl,hp2,hf⟩;have hb2:=(HB1.out.keep ((FR _).alloc _)).frx hf hXR;obtain ⟨⟨a0,a1,a2,a3,a4⟩,g0,g1,g2,g3,g4⟩:=box5 hb2;have HB2:=LH hb2;have HP2:=LH hp2;have HF2:=LH ((FrX.of (C:=R) (HF1.out.alloc _)).trans hf);clear hf hb2 hp2 hm)
   | (go_at_call 73;refine (token_at R e ts i 8192 0 0 ⟨2,n,s,a⟩ HT.out _ (HP.out.keep ((FR w).alloc _)) hl).mono ?_;rintro x w1 ⟨rfl,hf⟩;have hp1:=(HP.out.keep ((FR w).alloc _)).keep hf;have c2:∀ ob,(w1.alloc ob).cell? ⟨R,2,none⟩=some (.int .i64 (i:Nat)):=(λob=>(hp1.keep ((FR _).alloc ob)).cells.1.1);have c3:∀ ob,(w1.alloc ob).cell? ⟨R,3,none⟩=some (.int .i64 8192):=(λob=>(hp1.keep ((FR _).alloc ob)).cells.1.2.1);have fz:∀ ob j,(w1.alloc ob).frozen? ⟨R,j,none⟩=false:=(λob j=>(hp1.keep ((FR _).alloc ob)).cells.2 j);have hb1:=(Blk.made w #[.int .i64 0,.int .i64 0,.string ⟨#[]⟩,.slice none 0 0,.slice none 0 0] 29).keep hf;have hlt1:w.heap.size<w1.heap.size:=hb1.lt;have y0:∀ ob,(w1.alloc ob).cell? ⟨w.heap.size,0,none⟩=some (.int .i64 0):=(λob=>(hb1.keep ((FR _).alloc ob)).cell 0);have y1:∀ ob,(w1.alloc ob).cell? ⟨w.heap.size,1,none⟩=some (.int .i64 0):=(λob=>(hb1.keep ((FR _).alloc ob)).cell 1);have y2:∀ ob,(w1.alloc ob).cell? ⟨w.heap.size,2,none⟩=some (.string ⟨#[]⟩):=(λob=>(hb1.keep ((FR _).alloc ob)).cell 2);have y3:∀ ob,(w1.alloc ob).cell? ⟨w.heap.size,3,none⟩=some (.slice none 0 0):=(λob=>(hb1.keep ((FR _).alloc ob)).cell 3);have y4:∀ ob,(w1.alloc ob).cell? ⟨w.heap.size,4,none⟩=some (.slice none 0 0):=(λob=>(hb1.keep ((FR _).alloc ob)).cell 4);have yz:∀ ob j,(w1.alloc ob).frozen? ⟨w.heap.size,j,none⟩=false:=(λob j=>(hb1.keep ((FR _).alloc ob)).free j);have HP1:=LH hp1;have HB1:=LH hb1;have HF1:=LH (((FR w).alloc (.cells #[.int .i64 0,.int .i64 0,.string ⟨#[]⟩,.slice none 0 0,.slice none 0 0] 29)).trans hf);clear hf hp1 hb1))
  refine bodyPost_ret (results_cell_row (by rfl) _ _ w.heap.size 29 _ (0,0) _ (by rfl) (set5 HB2.out) Tryz.underlying29 rfl (by kernel_rfl)) rfl ?_;have hRw:∀ j,R<(Addr.mk w.heap.size j none).block:=λj=>hR
  have hSw:∀ j,w.heap.size<=(Addr.mk w.heap.size j none).block:=λj=>lR _
  exact PVP.zero (((((HP2.out.setY (hRw _) _).setY (hRw _) _).setY (hRw _) _).setY (hRw _) _).setY (hRw _) _) (by decide) (((((HF2.out.setNew (hSw _) _).setNew (hSw _) _).setNew (hSw _) _).setNew (hSw _) _).setNew (hSw _) _)
 ·go_enter Tryz.func53,Tryz.ntmps53
  go_wp2_with (first
   | (go_at_call 54;have hm:=HP1.out;refine (fail_is R e ts i 8192 53 _ (hm.keep ((FR _).alloc _)) hl 53 rfl ⟨3,n,s,a⟩ HT.out).mono ?_;rintro x w2 ⟨rfl,hp2,hf⟩;have hb2:=(HB1.out.keep ((FR _).alloc _)).frx hf hXR;obtain ⟨⟨a0,a1,a2,a3,a4⟩,g0,g1,g2,g3,g4⟩:=box5 hb2;have HB2:=LH hb2;have HP2:=LH hp2;have HF2:=LH ((FrX.of (C:=R) (HF1.out.alloc _)).trans hf);clear hf hb2 hp2 hm)
   | (go_at_call 73;refine (token_at R e ts i 8192 0 0 ⟨3,n,s,a⟩ HT.out _ (HP.out.keep ((FR w).alloc _)) hl).mono ?_;rintro x w1 ⟨rfl,hf⟩;have hp1:=(HP.out.keep ((FR w).alloc _)).keep hf;have c2:∀ ob,(w1.alloc ob).cell? ⟨R,2,none⟩=some (.int .i64 (i:Nat)):=(λob=>(hp1.keep ((FR _).alloc ob)).cells.1.1);have c3:∀ ob,(w1.alloc ob).cell? ⟨R,3,none⟩=some (.int .i64 8192):=(λob=>(hp1.keep ((FR _).alloc ob)).cells.1.2.1);have fz:∀ ob j,(w1.alloc ob).frozen? ⟨R,j,none⟩=false:=(λob j=>(hp1.keep ((FR _).alloc ob)).cells.2 j);have hb1:=(Blk.made w #[.int .i64 0,.int .i64 0,.string ⟨#[]⟩,.slice none 0 0,.slice none 0 0] 29).keep hf;have hlt1:w.heap.size<w1.heap.size:=hb1.lt;have y0:∀ ob,(w1.alloc ob).cell? ⟨w.heap.size,0,none⟩=some (.int .i64 0):=(λob=>(hb1.keep ((FR _).alloc ob)).cell 0);have y1:∀ ob,(w1.alloc ob).cell? ⟨w.heap.size,1,none⟩=some (.int .i64 0):=(λob=>(hb1.keep ((FR _).alloc ob)).cell 1);have y2:∀ ob,(w1.alloc ob).cell? ⟨w.heap.size,2,none⟩=some (.string ⟨#[]⟩):=(λob=>(hb1.keep ((FR _).alloc ob)).cell 2);have y3:∀ ob,(w1.alloc ob).cell? ⟨w.heap.size,3,none⟩=some (.slice none 0 0):=(λob=>(hb1.keep ((FR _).alloc ob)).cell 3);have y4:∀ ob,(w1.alloc ob).cell? ⟨w.heap.size,4,none⟩=some (.slice none 0 0):=(λob=>(hb1.keep ((FR _).alloc ob)).cell 4);have yz:∀ ob j,(w1.alloc ob).frozen? ⟨w.heap.size,j,none⟩=false:=(λob j=>(hb1.keep ((FR _).alloc ob)).free j);have HP1:=LH hp1;have HB1:=LH hb1;have HF1:=LH (((FR w).alloc (.cells #[.int .i64 0,.int .i64 0,.string ⟨#[]⟩,.slice none 0 0,.slice none 0 0] 29)).trans hf);clear hf hp1 hb1))
  refine bodyPost_ret (results_cell_row (by rfl) _ _ w.heap.size 29 _ (0,0) _ (by rfl) (set5 HB2.out) Tryz.underlying29 rfl (by kernel_rfl)) rfl ?_;have hRw:∀ j,R<(Addr.mk w.heap.size j none).block:=λj=>hR
  have hSw:∀ j,w.heap.size<=(Addr.mk w.heap.size j none).block:=λj=>lR _
  exact PVP.zero (((((HP2.out.setY (hRw _) _).setY (hRw _) _).setY (hRw _) _).setY (hRw _) _).setY (hRw _) _) (by decide) (((((HF2.out.setNew (hSw _) _).setNew (hSw _) _).setNew (hSw _) _).setNew (hSw _) _).setNew (hSw _) _)
 ·go_enter Tryz.func53,Tryz.ntmps53
  go_wp2_with (first
   | (go_at_call 54;have hm:=HP1.out;refine (fail_is R e ts i 8192 53 _ (hm.keep ((FR _).alloc _)) hl 53 rfl ⟨4,n,s,a⟩ HT.out).mono ?_;rintro x w2 ⟨rfl,hp2,hf⟩;have hb2:=(HB1.out.keep ((FR _).alloc _)).frx hf hXR;obtain ⟨⟨a0,a1,a2,a3,a4⟩,g0,g1,g2,g3,g4⟩:=box5 hb2;have HB2:=LH hb2;have HP2:=LH hp2;have HF2:=LH ((FrX.of (C:=R) (HF1.out.alloc _)).trans hf);clear hf hb2 hp2 hm)
   | (go_at_call 73;refine (token_at R e ts i 8192 0 0 ⟨4,n,s,a⟩ HT.out _ (HP.out.keep ((FR w).alloc _)) hl).mono ?_;rintro x w1 ⟨rfl,hf⟩;have hp1:=(HP.out.keep ((FR w).alloc _)).keep hf;have c2:∀ ob,(w1.alloc ob).cell? ⟨R,2,none⟩=some (.int .i64 (i:Nat)):=(λob=>(hp1.keep ((FR _).alloc ob)).cells.1.1);have c3:∀ ob,(w1.alloc ob).cell? ⟨R,3,none⟩=some (.int .i64 8192):=(λob=>(hp1.keep ((FR _).alloc ob)).cells.1.2.1);have fz:∀ ob j,(w1.alloc ob).frozen? ⟨R,j,none⟩=false:=(λob j=>(hp1.keep ((FR _).alloc ob)).cells.2 j);have hb1:=(Blk.made w #[.int .i64 0,.int .i64 0,.string ⟨#[]⟩,.slice none 0 0,.slice none 0 0] 29).keep hf;have hlt1:w.heap.size<w1.heap.size:=hb1.lt;have y0:∀ ob,(w1.alloc ob).cell? ⟨w.heap.size,0,none⟩=some (.int .i64 0):=(λob=>(hb1.keep ((FR _).alloc ob)).cell 0);have y1:∀ ob,(w1.alloc ob).cell? ⟨w.heap.size,1,none⟩=some (.int .i64 0):=(λob=>(hb1.keep ((FR _).alloc ob)).cell 1);have y2:∀ ob,(w1.alloc ob).cell? ⟨w.heap.size,2,none⟩=some (.string ⟨#[]⟩):=(λob=>(hb1.keep ((FR _).alloc ob)).cell 2);have y3:∀ ob,(w1.alloc ob).cell? ⟨w.heap.size,3,none⟩=some (.slice none 0 0):=(λob=>(hb1.keep ((FR _).alloc ob)).cell 3);have y4:∀ ob,(w1.alloc ob).cell? ⟨w.heap.size,4,none⟩=some (.slice none 0 0):=(λob=>(hb1.keep ((FR _).alloc ob)).cell 4);have yz:∀ ob j,(w1.alloc ob).frozen? ⟨w.heap.size,j,none⟩=false:=(λob j=>(hb1.keep ((FR _).alloc ob)).free j);have HP1:=LH hp1;have HB1:=LH hb1;have HF1:=LH (((FR w).alloc (.cells #[.int .i64 0,.int .i64 0,.string ⟨#[]⟩,.slice none 0 0,.slice none 0 0] 29)).trans hf);clear hf hp1 hb1))
  refine bodyPost_ret (results_cell_row (by rfl) _ _ w.heap.size 29 _ (0,0) _ (by rfl) (set5 HB2.out) Tryz.underlying29 rfl (by kernel_rfl)) rfl ?_;have hRw:∀ j,R<(Addr.mk w.heap.size j none).block:=λj=>hR
  have hSw:∀ j,w.heap.size<=(Addr.mk w.heap.size j none).block:=λj=>lR _
  exact PVP.zero (((((HP2.out.setY (hRw _) _).setY (hRw _) _).setY (hRw _) _).setY (hRw _) _).setY (hRw _) _) (by decide) (((((HF2.out.setNew (hSw _) _).setNew (hSw _) _).setNew (hSw _) _).setNew (hSw _) _).setNew (hSw _) _)
 ·go_enter Tryz.func53,Tryz.ntmps53
  go_wp2_with (first
   | (go_at_call 54;have hm:=HP1.out;refine (fail_is R e ts i 8192 53 _ (hm.keep ((FR _).alloc _)) hl 53 rfl ⟨1,n,[91],a⟩ HT.out).mono ?_;rintro x w2 ⟨rfl,hp2,hf⟩;have hb2:=(HB1.out.keep ((FR _).alloc _)).frx hf hXR;obtain ⟨⟨a0,a1,a2,a3,a4⟩,g0,g1,g2,g3,g4⟩:=box5 hb2;have HB2:=LH hb2;have HP2:=LH hp2;have HF2:=LH ((FrX.of (C:=R) (HF1.out.alloc _)).trans hf);clear hf hb2 hp2 hm)
   | (go_at_call 73;refine (token_at R e ts i 8192 0 0 ⟨1,n,[91],a⟩ HT.out _ (HP.out.keep ((FR w).alloc _)) hl).mono ?_;rintro x w1 ⟨rfl,hf⟩;have hp1:=(HP.out.keep ((FR w).alloc _)).keep hf;have c2:∀ ob,(w1.alloc ob).cell? ⟨R,2,none⟩=some (.int .i64 (i:Nat)):=(λob=>(hp1.keep ((FR _).alloc ob)).cells.1.1);have c3:∀ ob,(w1.alloc ob).cell? ⟨R,3,none⟩=some (.int .i64 8192):=(λob=>(hp1.keep ((FR _).alloc ob)).cells.1.2.1);have fz:∀ ob j,(w1.alloc ob).frozen? ⟨R,j,none⟩=false:=(λob j=>(hp1.keep ((FR _).alloc ob)).cells.2 j);have hb1:=(Blk.made w #[.int .i64 0,.int .i64 0,.string ⟨#[]⟩,.slice none 0 0,.slice none 0 0] 29).keep hf;have hlt1:w.heap.size<w1.heap.size:=hb1.lt;have y0:∀ ob,(w1.alloc ob).cell? ⟨w.heap.size,0,none⟩=some (.int .i64 0):=(λob=>(hb1.keep ((FR _).alloc ob)).cell 0);have y1:∀ ob,(w1.alloc ob).cell? ⟨w.heap.size,1,none⟩=some (.int .i64 0):=(λob=>(hb1.keep ((FR _).alloc ob)).cell 1);have y2:∀ ob,(w1.alloc ob).cell? ⟨w.heap.size,2,none⟩=some (.string ⟨#[]⟩):=(λob=>(hb1.keep ((FR _).alloc ob)).cell 2);have y3:∀ ob,(w1.alloc ob).cell? ⟨w.heap.size,3,none⟩=some (.slice none 0 0):=(λob=>(hb1.keep ((FR _).alloc ob)).cell 3);have y4:∀ ob,(w1.alloc ob).cell? ⟨w.heap.size,4,none⟩=some (.slice none 0 0):=(λob=>(hb1.keep ((FR _).alloc ob)).cell 4);have yz:∀ ob j,(w1.alloc ob).frozen? ⟨w.heap.size,j,none⟩=false:=(λob j=>(hb1.keep ((FR _).alloc ob)).free j);have HP1:=LH hp1;have HB1:=LH hb1;have HF1:=LH (((FR w).alloc (.cells #[.int .i64 0,.int .i64 0,.string ⟨#[]⟩,.slice none 0 0,.slice none 0 0] 29)).trans hf);clear hf hp1 hb1))
  refine bodyPost_ret (results_cell_row (by rfl) _ _ w.heap.size 29 _ (0,0) _ (by rfl) (set5 HB2.out) Tryz.underlying29 rfl (by kernel_rfl)) rfl ?_;have hRw:∀ j,R<(Addr.mk w.heap.size j none).block:=λj=>hR
  have hSw:∀ j,w.heap.size<=(Addr.mk w.heap.size j none).block:=λj=>lR _
  exact PVP.zero (((((HP2.out.setY (hRw _) _).setY (hRw _) _).setY (hRw _) _).setY (hRw _) _).setY (hRw _) _) (by decide) (((((HF2.out.setNew (hSw _) _).setNew (hSw _) _).setNew (hSw _) _).setNew (hSw _) _).setNew (hSw _) _)
 ·go_enter Tryz.func53,Tryz.ntmps53
  go_wp2_with (first
   | (go_at_call 54;have hm:=HP1.out;refine (fail_is R e ts i 8192 53 _ (hm.keep ((FR _).alloc _)) hl 53 rfl ⟨1,n,[123],a⟩ HT.out).mono ?_;rintro x w2 ⟨rfl,hp2,hf⟩;have hb2:=(HB1.out.keep ((FR _).alloc _)).frx hf hXR;obtain ⟨⟨a0,a1,a2,a3,a4⟩,g0,g1,g2,g3,g4⟩:=box5 hb2;have HB2:=LH hb2;have HP2:=LH hp2;have HF2:=LH ((FrX.of (C:=R) (HF1.out.alloc _)).trans hf);clear hf hb2 hp2 hm)
   | (go_at_call 73;refine (token_at R e ts i 8192 0 0 ⟨1,n,[123],a⟩ HT.out _ (HP.out.keep ((FR w).alloc _)) hl).mono ?_;rintro x w1 ⟨rfl,hf⟩;have hp1:=(HP.out.keep ((FR w).alloc _)).keep hf;have c2:∀ ob,(w1.alloc ob).cell? ⟨R,2,none⟩=some (.int .i64 (i:Nat)):=(λob=>(hp1.keep ((FR _).alloc ob)).cells.1.1);have c3:∀ ob,(w1.alloc ob).cell? ⟨R,3,none⟩=some (.int .i64 8192):=(λob=>(hp1.keep ((FR _).alloc ob)).cells.1.2.1);have fz:∀ ob j,(w1.alloc ob).frozen? ⟨R,j,none⟩=false:=(λob j=>(hp1.keep ((FR _).alloc ob)).cells.2 j);have hb1:=(Blk.made w #[.int .i64 0,.int .i64 0,.string ⟨#[]⟩,.slice none 0 0,.slice none 0 0] 29).keep hf;have hlt1:w.heap.size<w1.heap.size:=hb1.lt;have y0:∀ ob,(w1.alloc ob).cell? ⟨w.heap.size,0,none⟩=some (.int .i64 0):=(λob=>(hb1.keep ((FR _).alloc ob)).cell 0);have y1:∀ ob,(w1.alloc ob).cell? ⟨w.heap.size,1,none⟩=some (.int .i64 0):=(λob=>(hb1.keep ((FR _).alloc ob)).cell 1);have y2:∀ ob,(w1.alloc ob).cell? ⟨w.heap.size,2,none⟩=some (.string ⟨#[]⟩):=(λob=>(hb1.keep ((FR _).alloc ob)).cell 2);have y3:∀ ob,(w1.alloc ob).cell? ⟨w.heap.size,3,none⟩=some (.slice none 0 0):=(λob=>(hb1.keep ((FR _).alloc ob)).cell 3);have y4:∀ ob,(w1.alloc ob).cell? ⟨w.heap.size,4,none⟩=some (.slice none 0 0):=(λob=>(hb1.keep ((FR _).alloc ob)).cell 4);have yz:∀ ob j,(w1.alloc ob).frozen? ⟨w.heap.size,j,none⟩=false:=(λob j=>(hb1.keep ((FR _).alloc ob)).free j);have HP1:=LH hp1;have HB1:=LH hb1;have HF1:=LH (((FR w).alloc (.cells #[.int .i64 0,.int .i64 0,.string ⟨#[]⟩,.slice none 0 0,.slice none 0 0] 29)).trans hf);clear hf hp1 hb1))
  refine bodyPost_ret (results_cell_row (by rfl) _ _ w.heap.size 29 _ (0,0) _ (by rfl) (set5 HB2.out) Tryz.underlying29 rfl (by kernel_rfl)) rfl ?_;have hRw:∀ j,R<(Addr.mk w.heap.size j none).block:=λj=>hR
  have hSw:∀ j,w.heap.size<=(Addr.mk w.heap.size j none).block:=λj=>lR _
  exact PVP.zero (((((HP2.out.setY (hRw _) _).setY (hRw _) _).setY (hRw _) _).setY (hRw _) _).setY (hRw _) _) (by decide) (((((HF2.out.setNew (hSw _) _).setNew (hSw _) _).setNew (hSw _) _).setNew (hSw _) _).setNew (hSw _) _)

theorem pval_text (f R e:Nat) (ts:List Scn.Tok) (i:Nat) (n:Int) (s:List UInt8) (a:Nat) (d p:Nat) (w:World) (h:Prs w R e ts i p 0 0) (hl:ts.length<=140737488355328) (hp:p<=8192) (ht:Rd.next e (ts.drop i)=⟨4,n,s,a⟩) (hs:s.length<=140737488355328) (hd:¬ 16<d) (h8:¬ 8192<=p):
  Calls Tryz.prog 53 #[.pointer (some ⟨R,0,none⟩),.int .i64 (d:Nat)] w (PVP R e ts w (Rd.rdV (f+1) e ⟨4,n,s,a⟩ (ts.drop i).tail d p)):=by
 have hlf:Rd.leaf ⟨4,n,s,a⟩=some (JV.textV s):=by rfl
 rw [Rd.rdV_succ,if_neg (by rw [hlf];simp),if_neg hd,if_neg h8,hlf];have d1:decide ((16:Int)<(d:Int))=false:=dF (by omega);have d2:decide (16<d)=false:=dF (by omega);have d3:((p:Int) == 8192)=false:=by rw [beq_eq_false_iff_ne];omega
 have hp2:(p:Int)<=8191:=by omega
 have hil:i<ts.length:=by
  rcases Nat.lt_or_ge i ts.length with h9 | h9
  ·exact h9
  ·rw [List.drop_eq_nil_of_le h9] at ht;simp [Rd.next] at ht
 have hi2:(i:Int)<=140737488355328:=by omega
 have htl:(ts.drop i).tail=ts.drop (i+1):=by rw [List.tail_drop]
 rw [htl];clear hlf htl;have HP:=LH h;have HT:=LH ht;have hR:=h.lt;have hn:¬ R=w.heap.size:=by omega
 have hXR:¬ w.heap.size=R:=by omega
 clear h ht;go_enter Tryz.func53,Tryz.ntmps53
 go_wp2_with ((go_at_call 73;refine (token_at R e ts i p 0 0 ⟨4,n,s,a⟩ HT.out _ (HP.out.keep ((FR w).alloc _)) hl).mono ?_;rintro x w1 ⟨rfl,hf⟩;have hp1:=(HP.out.keep ((FR w).alloc _)).keep hf;have c2:∀ ob,(w1.alloc ob).cell? ⟨R,2,none⟩=some (.int .i64 (i:Nat)):=(λob=>(hp1.keep ((FR _).alloc ob)).cells.1.1);have c3:∀ ob,(w1.alloc ob).cell? ⟨R,3,none⟩=some (.int .i64 (p:Nat)):=(λob=>(hp1.keep ((FR _).alloc ob)).cells.1.2.1);have fz:∀ ob j,(w1.alloc ob).frozen? ⟨R,j,none⟩=false:=(λob j=>(hp1.keep ((FR _).alloc ob)).cells.2 j);have hb1:=(Blk.made w #[.int .i64 0,.int .i64 0,.string ⟨#[]⟩,.slice none 0 0,.slice none 0 0] 29).keep hf;have hlt1:w.heap.size<w1.heap.size:=hb1.lt;have y0:∀ ob,(w1.alloc ob).cell? ⟨w.heap.size,0,none⟩=some (.int .i64 0):=(λob=>(hb1.keep ((FR _).alloc ob)).cell 0);have y1:∀ ob,(w1.alloc ob).cell? ⟨w.heap.size,1,none⟩=some (.int .i64 0):=(λob=>(hb1.keep ((FR _).alloc ob)).cell 1);have y2:∀ ob,(w1.alloc ob).cell? ⟨w.heap.size,2,none⟩=some (.string ⟨#[]⟩):=(λob=>(hb1.keep ((FR _).alloc ob)).cell 2);have y3:∀ ob,(w1.alloc ob).cell? ⟨w.heap.size,3,none⟩=some (.slice none 0 0):=(λob=>(hb1.keep ((FR _).alloc ob)).cell 3);have y4:∀ ob,(w1.alloc ob).cell? ⟨w.heap.size,4,none⟩=some (.slice none 0 0):=(λob=>(hb1.keep ((FR _).alloc ob)).cell 4);have yz:∀ ob j,(w1.alloc ob).frozen? ⟨w.heap.size,j,none⟩=false:=(λob j=>(hb1.keep ((FR _).alloc ob)).free j);have HP1:=LH hp1;have HB1:=LH hb1;have HF1:=LH (((FR w).alloc (.cells #[.int .i64 0,.int .i64 0,.string ⟨#[]⟩,.slice none 0 0,.slice none 0 0] 29)).trans hf);clear hf hp1 hb1))
 have hb4:=(((HB1.out.keep ((FR _).alloc (.cells #[.int .i64 4,.int .i64 n,.string ⟨s.toArray⟩,.int .i64 (a:Nat)] 81))).other (p:=⟨R,3,none⟩) (by show R≠w.heap.size;omega) (.int .i64 ((p:Int)+1))).other (p:=⟨R,2,none⟩) (by show R≠w.heap.size;omega) (.int .i64 ((i:Int)+1)));refine bodyPost_ret (results_cell_row (by rfl) _ _ w.heap.size 29 _ (0,0) _ (by rfl) (set5 hb4) Tryz.underlying29 rfl (by kernel_rfl)) rfl ?_;have hRw:∀ j,R<(Addr.mk w.heap.size j none).block:=λj=>hR
 have hSw:∀ j,w.heap.size<=(Addr.mk w.heap.size j none).block:=λj=>lR _
 refine ⟨4,0,⟨s.toArray⟩,none,0,0,none,0,0,rfl,InV.leaf _ _ 4 0 s none none 0 0 (by decide) (by decide) (by decide) (by decide) hs,⟨i+1,?_,rfl⟩,?_⟩
 ·exact (((((((HP1.out.keep ((FR _).alloc _)).setP (by omega)).setI (by omega) (by omega)).setY (hRw _) _).setY (hRw _) _).setY (hRw _) _).setY (hRw _) _).setY (hRw _) _
 ·exact ((((((((FrX.of (C:=R) (HF1.out)).alloc _).setCell (p:=⟨R,3,none⟩) rfl _).setCell (p:=⟨R,2,none⟩) rfl _).setNew (hSw _) _).setNew (hSw _) _).setNew (hSw _) _).setNew (hSw _) _).setNew (hSw _) _

theorem pval_num (f R e:Nat) (ts:List Scn.Tok) (i:Nat) (n:Int) (s:List UInt8) (a:Nat) (d p:Nat) (w:World) (h:Prs w R e ts i p 0 0) (hl:ts.length<=140737488355328) (hp:p<=8192) (ht:Rd.next e (ts.drop i)=⟨3,n,s,a⟩) (hn1:-9223372036854775808<=n) (hn2:n<=9223372036854775807) (hd:¬ 16<d) (h8:¬ 8192<=p):
  Calls Tryz.prog 53 #[.pointer (some ⟨R,0,none⟩),.int .i64 (d:Nat)] w (PVP R e ts w (Rd.rdV (f+1) e ⟨3,n,s,a⟩ (ts.drop i).tail d p)):=by
 have hlf:Rd.leaf ⟨3,n,s,a⟩=some (JV.intV n):=by rfl
 rw [Rd.rdV_succ,if_neg (by rw [hlf];simp),if_neg hd,if_neg h8,hlf];have d1:decide ((16:Int)<(d:Int))=false:=dF (by omega);have d2:decide (16<d)=false:=dF (by omega);have d3:((p:Int) == 8192)=false:=by rw [beq_eq_false_iff_ne];omega
 have hp2:(p:Int)<=8191:=by omega
 have hil:i<ts.length:=by
  rcases Nat.lt_or_ge i ts.length with h9 | h9
  ·exact h9
  ·rw [List.drop_eq_nil_of_le h9] at ht;simp [Rd.next] at ht
 have hi2:(i:Int)<=140737488355328:=by omega
 have htl:(ts.drop i).tail=ts.drop (i+1):=by rw [List.tail_drop]
 rw [htl];clear hlf htl;have HP:=LH h;have HT:=LH ht;have hR:=h.lt;have hn:¬ R=w.heap.size:=by omega
 have hXR:¬ w.heap.size=R:=by omega
 clear h ht;go_enter Tryz.func53,Tryz.ntmps53
 go_wp2_with ((go_at_call 73;refine (token_at R e ts i p 0 0 ⟨3,n,s,a⟩ HT.out _ (HP.out.keep ((FR w).alloc _)) hl).mono ?_;rintro x w1 ⟨rfl,hf⟩;have hp1:=(HP.out.keep ((FR w).alloc _)).keep hf;have c2:∀ ob,(w1.alloc ob).cell? ⟨R,2,none⟩=some (.int .i64 (i:Nat)):=(λob=>(hp1.keep ((FR _).alloc ob)).cells.1.1);have c3:∀ ob,(w1.alloc ob).cell? ⟨R,3,none⟩=some (.int .i64 (p:Nat)):=(λob=>(hp1.keep ((FR _).alloc ob)).cells.1.2.1);have fz:∀ ob j,(w1.alloc ob).frozen? ⟨R,j,none⟩=false:=(λob j=>(hp1.keep ((FR _).alloc ob)).cells.2 j);have hb1:=(Blk.made w #[.int .i64 0,.int .i64 0,.string ⟨#[]⟩,.slice none 0 0,.slice none 0 0] 29).keep hf;have hlt1:w.heap.size<w1.heap.size:=hb1.lt;have y0:∀ ob,(w1.alloc ob).cell? ⟨w.heap.size,0,none⟩=some (.int .i64 0):=(λob=>(hb1.keep ((FR _).alloc ob)).cell 0);have y1:∀ ob,(w1.alloc ob).cell? ⟨w.heap.size,1,none⟩=some (.int .i64 0):=(λob=>(hb1.keep ((FR _).alloc ob)).cell 1);have y2:∀ ob,(w1.alloc ob).cell? ⟨w.heap.size,2,none⟩=some (.string ⟨#[]⟩):=(λob=>(hb1.keep ((FR _).alloc ob)).cell 2);have y3:∀ ob,(w1.alloc ob).cell? ⟨w.heap.size,3,none⟩=some (.slice none 0 0):=(λob=>(hb1.keep ((FR _).alloc ob)).cell 3);have y4:∀ ob,(w1.alloc ob).cell? ⟨w.heap.size,4,none⟩=some (.slice none 0 0):=(λob=>(hb1.keep ((FR _).alloc ob)).cell 4);have yz:∀ ob j,(w1.alloc ob).frozen? ⟨w.heap.size,j,none⟩=false:=(λob j=>(hb1.keep ((FR _).alloc ob)).free j);have HP1:=LH hp1;have HB1:=LH hb1;have HF1:=LH (((FR w).alloc (.cells #[.int .i64 0,.int .i64 0,.string ⟨#[]⟩,.slice none 0 0,.slice none 0 0] 29)).trans hf);clear hf hp1 hb1))
 have hb4:=(((HB1.out.keep ((FR _).alloc (.cells #[.int .i64 3,.int .i64 n,.string ⟨s.toArray⟩,.int .i64 (a:Nat)] 81))).other (p:=⟨R,3,none⟩) (by show R≠w.heap.size;omega) (.int .i64 ((p:Int)+1))).other (p:=⟨R,2,none⟩) (by show R≠w.heap.size;omega) (.int .i64 ((i:Int)+1)));refine bodyPost_ret (results_cell_row (by rfl) _ _ w.heap.size 29 _ (0,0) _ (by rfl) (set5 hb4) Tryz.underlying29 rfl (by kernel_rfl)) rfl ?_;have hRw:∀ j,R<(Addr.mk w.heap.size j none).block:=λj=>hR
 have hSw:∀ j,w.heap.size<=(Addr.mk w.heap.size j none).block:=λj=>lR _
 refine ⟨3,n,⟨#[]⟩,none,0,0,none,0,0,rfl,InV.leaf _ _ 3 n [] none none 0 0 hn1 hn2 (by decide) (by decide) (by simp),⟨i+1,?_,rfl⟩,?_⟩
 ·exact (((((((HP1.out.keep ((FR _).alloc _)).setP (by omega)).setI (by omega) (by omega)).setY (hRw _) _).setY (hRw _) _).setY (hRw _) _).setY (hRw _) _).setY (hRw _) _
 ·exact ((((((((FrX.of (C:=R) (HF1.out)).alloc _).setCell (p:=⟨R,3,none⟩) rfl _).setCell (p:=⟨R,2,none⟩) rfl _).setNew (hSw _) _).setNew (hSw _) _).setNew (hSw _) _).setNew (hSw _) _).setNew (hSw _) _

theorem pval_null (f R e:Nat) (ts:List Scn.Tok) (i:Nat) (n:Int) (a:Nat) (d p:Nat) (w:World) (h:Prs w R e ts i p 0 0) (hl:ts.length<=140737488355328) (hp:p<=8192) (ht:Rd.next e (ts.drop i)=⟨2,n,[110,117,108,108],a⟩) (hd:¬ 16<d) (h8:¬ 8192<=p):
  Calls Tryz.prog 53 #[.pointer (some ⟨R,0,none⟩),.int .i64 (d:Nat)] w (PVP R e ts w (Rd.rdV (f+1) e ⟨2,n,[110,117,108,108],a⟩ (ts.drop i).tail d p)):=by
 have hlf:Rd.leaf ⟨2,n,[110,117,108,108],a⟩=some (JV.nullV):=by rfl
 rw [Rd.rdV_succ,if_neg (by rw [hlf];simp),if_neg hd,if_neg h8,hlf];have d1:decide ((16:Int)<(d:Int))=false:=dF (by omega);have d2:decide (16<d)=false:=dF (by omega);have d3:((p:Int) == 8192)=false:=by rw [beq_eq_false_iff_ne];omega
 have hp2:(p:Int)<=8191:=by omega
 have hil:i<ts.length:=by
  rcases Nat.lt_or_ge i ts.length with h9 | h9
  ·exact h9
  ·rw [List.drop_eq_nil_of_le h9] at ht;simp [Rd.next] at ht
 have hi2:(i:Int)<=140737488355328:=by omega
 have htl:(ts.drop i).tail=ts.drop (i+1):=by rw [List.tail_drop]
 rw [htl];clear hlf htl;have HP:=LH h;have HT:=LH ht;have hR:=h.lt;have hn:¬ R=w.heap.size:=by omega
 have hXR:¬ w.heap.size=R:=by omega
 clear h ht;go_enter Tryz.func53,Tryz.ntmps53
 go_wp2_with ((go_at_call 73;refine (token_at R e ts i p 0 0 ⟨2,n,[110,117,108,108],a⟩ HT.out _ (HP.out.keep ((FR w).alloc _)) hl).mono ?_;rintro x w1 ⟨rfl,hf⟩;have hp1:=(HP.out.keep ((FR w).alloc _)).keep hf;have c2:∀ ob,(w1.alloc ob).cell? ⟨R,2,none⟩=some (.int .i64 (i:Nat)):=(λob=>(hp1.keep ((FR _).alloc ob)).cells.1.1);have c3:∀ ob,(w1.alloc ob).cell? ⟨R,3,none⟩=some (.int .i64 (p:Nat)):=(λob=>(hp1.keep ((FR _).alloc ob)).cells.1.2.1);have fz:∀ ob j,(w1.alloc ob).frozen? ⟨R,j,none⟩=false:=(λob j=>(hp1.keep ((FR _).alloc ob)).cells.2 j);have hb1:=(Blk.made w #[.int .i64 0,.int .i64 0,.string ⟨#[]⟩,.slice none 0 0,.slice none 0 0] 29).keep hf;have hlt1:w.heap.size<w1.heap.size:=hb1.lt;have y0:∀ ob,(w1.alloc ob).cell? ⟨w.heap.size,0,none⟩=some (.int .i64 0):=(λob=>(hb1.keep ((FR _).alloc ob)).cell 0);have y1:∀ ob,(w1.alloc ob).cell? ⟨w.heap.size,1,none⟩=some (.int .i64 0):=(λob=>(hb1.keep ((FR _).alloc ob)).cell 1);have y2:∀ ob,(w1.alloc ob).cell? ⟨w.heap.size,2,none⟩=some (.string ⟨#[]⟩):=(λob=>(hb1.keep ((FR _).alloc ob)).cell 2);have y3:∀ ob,(w1.alloc ob).cell? ⟨w.heap.size,3,none⟩=some (.slice none 0 0):=(λob=>(hb1.keep ((FR _).alloc ob)).cell 3);have y4:∀ ob,(w1.alloc ob).cell? ⟨w.heap.size,4,none⟩=some (.slice none 0 0):=(λob=>(hb1.keep ((FR _).alloc ob)).cell 4);have yz:∀ ob j,(w1.alloc ob).frozen? ⟨w.heap.size,j,none⟩=false:=(λob j=>(hb1.keep ((FR _).alloc ob)).free j);have HP1:=LH hp1;have HB1:=LH hb1;have HF1:=LH (((FR w).alloc (.cells #[.int .i64 0,.int .i64 0,.string ⟨#[]⟩,.slice none 0 0,.slice none 0 0] 29)).trans hf);clear hf hp1 hb1))
 have hb4:=(((HB1.out.keep ((FR _).alloc (.cells #[.int .i64 2,.int .i64 n,.string ⟨#[110,117,108,108]⟩,.int .i64 (a:Nat)] 81))).other (p:=⟨R,3,none⟩) (by show R≠w.heap.size;omega) (.int .i64 ((p:Int)+1))).other (p:=⟨R,2,none⟩) (by show R≠w.heap.size;omega) (.int .i64 ((i:Int)+1)));refine bodyPost_ret (results_cell_row (by rfl) _ _ w.heap.size 29 _ (0,0) _ (by rfl) (set5 hb4) Tryz.underlying29 rfl (by kernel_rfl)) rfl ?_;have hRw:∀ j,R<(Addr.mk w.heap.size j none).block:=λj=>hR
 have hSw:∀ j,w.heap.size<=(Addr.mk w.heap.size j none).block:=λj=>lR _
 refine ⟨1,0,⟨#[]⟩,none,0,0,none,0,0,rfl,InV.leaf _ _ 1 0 [] none none 0 0 (by decide) (by decide) (by decide) (by decide) (by simp),⟨i+1,?_,rfl⟩,?_⟩
 ·exact (((((((HP1.out.keep ((FR _).alloc _)).setP (by omega)).setI (by omega) (by omega)).setY (hRw _) _).setY (hRw _) _).setY (hRw _) _).setY (hRw _) _).setY (hRw _) _
 ·exact ((((((((FrX.of (C:=R) (HF1.out)).alloc _).setCell (p:=⟨R,3,none⟩) rfl _).setCell (p:=⟨R,2,none⟩) rfl _).setNew (hSw _) _).setNew (hSw _) _).setNew (hSw _) _).setNew (hSw _) _).setNew (hSw _) _

theorem pval_true (f R e:Nat) (ts:List Scn.Tok) (i:Nat) (n:Int) (a:Nat) (d p:Nat) (w:World) (h:Prs w R e ts i p 0 0) (hl:ts.length<=140737488355328) (hp:p<=8192) (ht:Rd.next e (ts.drop i)=⟨2,n,[116,114,117,101],a⟩) (hd:¬ 16<d) (h8:¬ 8192<=p):
  Calls Tryz.prog 53 #[.pointer (some ⟨R,0,none⟩),.int .i64 (d:Nat)] w (PVP R e ts w (Rd.rdV (f+1) e ⟨2,n,[116,114,117,101],a⟩ (ts.drop i).tail d p)):=by
 have hlf:Rd.leaf ⟨2,n,[116,114,117,101],a⟩=some (JV.boolV 1):=by rfl
 rw [Rd.rdV_succ,if_neg (by rw [hlf];simp),if_neg hd,if_neg h8,hlf];have d1:decide ((16:Int)<(d:Int))=false:=dF (by omega);have d2:decide (16<d)=false:=dF (by omega);have d3:((p:Int) == 8192)=false:=by rw [beq_eq_false_iff_ne];omega
 have hp2:(p:Int)<=8191:=by omega
 have hil:i<ts.length:=by
  rcases Nat.lt_or_ge i ts.length with h9 | h9
  ·exact h9
  ·rw [List.drop_eq_nil_of_le h9] at ht;simp [Rd.next] at ht
 have hi2:(i:Int)<=140737488355328:=by omega
 have htl:(ts.drop i).tail=ts.drop (i+1):=by rw [List.tail_drop]
 rw [htl];clear hlf htl;have HP:=LH h;have HT:=LH ht;have hR:=h.lt;have hn:¬ R=w.heap.size:=by omega
 have hXR:¬ w.heap.size=R:=by omega
 clear h ht;go_enter Tryz.func53,Tryz.ntmps53
 go_wp2_with ((go_at_call 73;refine (token_at R e ts i p 0 0 ⟨2,n,[116,114,117,101],a⟩ HT.out _ (HP.out.keep ((FR w).alloc _)) hl).mono ?_;rintro x w1 ⟨rfl,hf⟩;have hp1:=(HP.out.keep ((FR w).alloc _)).keep hf;have c2:∀ ob,(w1.alloc ob).cell? ⟨R,2,none⟩=some (.int .i64 (i:Nat)):=(λob=>(hp1.keep ((FR _).alloc ob)).cells.1.1);have c3:∀ ob,(w1.alloc ob).cell? ⟨R,3,none⟩=some (.int .i64 (p:Nat)):=(λob=>(hp1.keep ((FR _).alloc ob)).cells.1.2.1);have fz:∀ ob j,(w1.alloc ob).frozen? ⟨R,j,none⟩=false:=(λob j=>(hp1.keep ((FR _).alloc ob)).cells.2 j);have hb1:=(Blk.made w #[.int .i64 0,.int .i64 0,.string ⟨#[]⟩,.slice none 0 0,.slice none 0 0] 29).keep hf;have hlt1:w.heap.size<w1.heap.size:=hb1.lt;have y0:∀ ob,(w1.alloc ob).cell? ⟨w.heap.size,0,none⟩=some (.int .i64 0):=(λob=>(hb1.keep ((FR _).alloc ob)).cell 0);have y1:∀ ob,(w1.alloc ob).cell? ⟨w.heap.size,1,none⟩=some (.int .i64 0):=(λob=>(hb1.keep ((FR _).alloc ob)).cell 1);have y2:∀ ob,(w1.alloc ob).cell? ⟨w.heap.size,2,none⟩=some (.string ⟨#[]⟩):=(λob=>(hb1.keep ((FR _).alloc ob)).cell 2);have y3:∀ ob,(w1.alloc ob).cell? ⟨w.heap.size,3,none⟩=some (.slice none 0 0):=(λob=>(hb1.keep ((FR _).alloc ob)).cell 3);have y4:∀ ob,(w1.alloc ob).cell? ⟨w.heap.size,4,none⟩=some (.slice none 0 0):=(λob=>(hb1.keep ((FR _).alloc ob)).cell 4);have yz:∀ ob j,(w1.alloc ob).frozen? ⟨w.heap.size,j,none⟩=false:=(λob j=>(hb1.keep ((FR _).alloc ob)).free j);have HP1:=LH hp1;have HB1:=LH hb1;have HF1:=LH (((FR w).alloc (.cells #[.int .i64 0,.int .i64 0,.string ⟨#[]⟩,.slice none 0 0,.slice none 0 0] 29)).trans hf);clear hf hp1 hb1))
 have hb4:=(((HB1.out.keep ((FR _).alloc (.cells #[.int .i64 2,.int .i64 n,.string ⟨#[116,114,117,101]⟩,.int .i64 (a:Nat)] 81))).other (p:=⟨R,3,none⟩) (by show R≠w.heap.size;omega) (.int .i64 ((p:Int)+1))).other (p:=⟨R,2,none⟩) (by show R≠w.heap.size;omega) (.int .i64 ((i:Int)+1)));refine bodyPost_ret (results_cell_row (by rfl) _ _ w.heap.size 29 _ (0,0) _ (by rfl) (set5 hb4) Tryz.underlying29 rfl (by kernel_rfl)) rfl ?_;have hRw:∀ j,R<(Addr.mk w.heap.size j none).block:=λj=>hR
 have hSw:∀ j,w.heap.size<=(Addr.mk w.heap.size j none).block:=λj=>lR _
 refine ⟨2,1,⟨#[]⟩,none,0,0,none,0,0,rfl,InV.leaf _ _ 2 1 [] none none 0 0 (by decide) (by decide) (by decide) (by decide) (by simp),⟨i+1,?_,rfl⟩,?_⟩
 ·exact (((((((HP1.out.keep ((FR _).alloc _)).setP (by omega)).setI (by omega) (by omega)).setY (hRw _) _).setY (hRw _) _).setY (hRw _) _).setY (hRw _) _).setY (hRw _) _
 ·exact ((((((((FrX.of (C:=R) (HF1.out)).alloc _).setCell (p:=⟨R,3,none⟩) rfl _).setCell (p:=⟨R,2,none⟩) rfl _).setNew (hSw _) _).setNew (hSw _) _).setNew (hSw _) _).setNew (hSw _) _).setNew (hSw _) _

theorem pval_word (f R e:Nat) (ts:List Scn.Tok) (i:Nat) (n:Int) (s:List UInt8) (a:Nat) (d p:Nat) (w:World) (h:Prs w R e ts i p 0 0) (hl:ts.length<=140737488355328) (hp:p<=8192) (ht:Rd.next e (ts.drop i)=⟨2,n,s,a⟩) (hs1:s≠[110,117,108,108]) (hs2:s≠[116,114,117,101]) (hd:¬ 16<d) (h8:¬ 8192<=p):
  Calls Tryz.prog 53 #[.pointer (some ⟨R,0,none⟩),.int .i64 (d:Nat)] w (PVP R e ts w (Rd.rdV (f+1) e ⟨2,n,s,a⟩ (ts.drop i).tail d p)):=by
 have hlf:Rd.leaf ⟨2,n,s,a⟩=some (JV.boolV 0):=by (show (if s=JV.tNull then some JV.nullV else if s=JV.tTrue then some (JV.boolV 1) else some (JV.boolV 0))=_;rw [if_neg (show ¬ s=JV.tNull from hs1),if_neg (show ¬ s=JV.tTrue from hs2)])
 rw [Rd.rdV_succ,if_neg (by rw [hlf];simp),if_neg hd,if_neg h8,hlf];have d1:decide ((16:Int)<(d:Int))=false:=dF (by omega);have d2:decide (16<d)=false:=dF (by omega);have d3:((p:Int) == 8192)=false:=by rw [beq_eq_false_iff_ne];omega
 have hp2:(p:Int)<=8191:=by omega
 have hil:i<ts.length:=by
  rcases Nat.lt_or_ge i ts.length with h9 | h9
  ·exact h9
  ·rw [List.drop_eq_nil_of_le h9] at ht;simp [Rd.next] at ht
 have hi2:(i:Int)<=140737488355328:=by omega
 have htl:(ts.drop i).tail=ts.drop (i+1):=by rw [List.tail_drop]
 rw [htl];clear hlf htl;have HP:=LH h;have HT:=LH ht;have hR:=h.lt;have hn:¬ R=w.heap.size:=by omega
 have hXR:¬ w.heap.size=R:=by omega
 clear h ht;have z1:((⟨s.toArray⟩:ByteArray).toList == (⟨#[110,117,108,108]⟩:ByteArray).toList)=false:=by
  rw [ByteArray.toList_eq,ByteArray.toList_eq];simpa using hs1
 have z2:((⟨s.toArray⟩:ByteArray).toList == (⟨#[116,114,117,101]⟩:ByteArray).toList)=false:=by
  rw [ByteArray.toList_eq,ByteArray.toList_eq];simpa using hs2
 have z3:(s == [110,117,108,108])=false:=by rw [beq_eq_false_iff_ne];exact hs1
 have z4:(s == [116,114,117,101])=false:=by rw [beq_eq_false_iff_ne];exact hs2
 clear hs1 hs2;go_enter Tryz.func53,Tryz.ntmps53
 go_wp2_with ((go_at_call 73;refine (token_at R e ts i p 0 0 ⟨2,n,s,a⟩ HT.out _ (HP.out.keep ((FR w).alloc _)) hl).mono ?_;rintro x w1 ⟨rfl,hf⟩;have hp1:=(HP.out.keep ((FR w).alloc _)).keep hf;have c2:∀ ob,(w1.alloc ob).cell? ⟨R,2,none⟩=some (.int .i64 (i:Nat)):=(λob=>(hp1.keep ((FR _).alloc ob)).cells.1.1);have c3:∀ ob,(w1.alloc ob).cell? ⟨R,3,none⟩=some (.int .i64 (p:Nat)):=(λob=>(hp1.keep ((FR _).alloc ob)).cells.1.2.1);have fz:∀ ob j,(w1.alloc ob).frozen? ⟨R,j,none⟩=false:=(λob j=>(hp1.keep ((FR _).alloc ob)).cells.2 j);have hb1:=(Blk.made w #[.int .i64 0,.int .i64 0,.string ⟨#[]⟩,.slice none 0 0,.slice none 0 0] 29).keep hf;have hlt1:w.heap.size<w1.heap.size:=hb1.lt;have y0:∀ ob,(w1.alloc ob).cell? ⟨w.heap.size,0,none⟩=some (.int .i64 0):=(λob=>(hb1.keep ((FR _).alloc ob)).cell 0);have y1:∀ ob,(w1.alloc ob).cell? ⟨w.heap.size,1,none⟩=some (.int .i64 0):=(λob=>(hb1.keep ((FR _).alloc ob)).cell 1);have y2:∀ ob,(w1.alloc ob).cell? ⟨w.heap.size,2,none⟩=some (.string ⟨#[]⟩):=(λob=>(hb1.keep ((FR _).alloc ob)).cell 2);have y3:∀ ob,(w1.alloc ob).cell? ⟨w.heap.size,3,none⟩=some (.slice none 0 0):=(λob=>(hb1.keep ((FR _).alloc ob)).cell 3);have y4:∀ ob,(w1.alloc ob).cell? ⟨w.heap.size,4,none⟩=some (.slice none 0 0):=(λob=>(hb1.keep ((FR _).alloc ob)).cell 4);have yz:∀ ob j,(w1.alloc ob).frozen? ⟨w.heap.size,j,none⟩=false:=(λob j=>(hb1.keep ((FR _).alloc ob)).free j);have HP1:=LH hp1;have HB1:=LH hb1;have HF1:=LH (((FR w).alloc (.cells #[.int .i64 0,.int .i64 0,.string ⟨#[]⟩,.slice none 0 0,.slice none 0 0] 29)).trans hf);clear hf hp1 hb1))
 have hb4:=(((HB1.out.keep ((FR _).alloc (.cells #[.int .i64 2,.int .i64 n,.string ⟨s.toArray⟩,.int .i64 (a:Nat)] 81))).other (p:=⟨R,3,none⟩) (by show R≠w.heap.size;omega) (.int .i64 ((p:Int)+1))).other (p:=⟨R,2,none⟩) (by show R≠w.heap.size;omega) (.int .i64 ((i:Int)+1)));refine bodyPost_ret (results_cell_row (by rfl) _ _ w.heap.size 29 _ (0,0) _ (by rfl) (set5 hb4) Tryz.underlying29 rfl (by kernel_rfl)) rfl ?_;have hRw:∀ j,R<(Addr.mk w.heap.size j none).block:=λj=>hR
 have hSw:∀ j,w.heap.size<=(Addr.mk w.heap.size j none).block:=λj=>lR _
 refine ⟨2,0,⟨#[]⟩,none,0,0,none,0,0,rfl,InV.leaf _ _ 2 0 [] none none 0 0 (by decide) (by decide) (by decide) (by decide) (by simp),⟨i+1,?_,rfl⟩,?_⟩
 ·exact (((((((HP1.out.keep ((FR _).alloc _)).setP (by omega)).setI (by omega) (by omega)).setY (hRw _) _).setY (hRw _) _).setY (hRw _) _).setY (hRw _) _).setY (hRw _) _
 ·exact ((((((((FrX.of (C:=R) (HF1.out)).alloc _).setCell (p:=⟨R,3,none⟩) rfl _).setCell (p:=⟨R,2,none⟩) rfl _).setNew (hSw _) _).setNew (hSw _) _).setNew (hSw _) _).setNew (hSw _) _).setNew (hSw _) _

end Go.Proofs.YtockgemmkjdnkaaGreatDoor
