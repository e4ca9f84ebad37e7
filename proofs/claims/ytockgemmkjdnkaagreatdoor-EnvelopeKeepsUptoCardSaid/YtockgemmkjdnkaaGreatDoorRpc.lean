/- The walk of the document's reader: lists. -/
import Derived.Test.YtockgemmkjdnkaaGreatDoorRpa
import Derived.Test.YtockgemmkjdnkaaGreatDoorEe
import Derived.Test.YtockgemmkjdnkaaGreatDoorRdb
set_option maxRecDepth 100000
set_option maxHeartbeats 2000000
set_option linter.unusedVariables false
set_option linter.unusedSimpArgs false
namespace Go.Proofs.YtockgemmkjdnkaaGreatDoor
open Go.RowKit

def TokG (x:Scn.Tok):Prop:=TokOk x/\x.kind<=4
def PVAt (g:Nat):Prop:=∀ (R e:Nat) (ts:List Scn.Tok) (i d p:Nat) (w:World),Prs w R e ts i p 0 0->ts.length<=140737488355328->p<=8192->d<=17->(∀ x∈ts,TokG x)->Rd.rdV g e (Rd.next e (ts.drop i)) (ts.drop i).tail d p≠.out ->
 Calls Tryz.prog 53 #[.pointer (some ⟨R,0,none⟩),.int .i64 (d:Nat)] w (PVP R e ts w (Rd.rdV g e (Rd.next e (ts.drop i)) (ts.drop i).tail d p))
theorem InV.far {w:World} {lo B:Nat} {v:JV} {x:Value} (h:InV w (Be lo B) v x) {a:Addr} (ha:a.block<lo) (u:Value):InV (w.setCell a u) (Be lo B) v x:=
 h.map (λ_ h=>h) (λb o hb=>by unfold World.cell?;rw [Below.heap_setCell _ _ _ _ (by show b≠a.block;have:=hb.1;omega)])
theorem InV.far5 {w:World} {lo B:Nat} {v:JV} {x:Value} (h:InV w (Be lo B) v x) {X:Nat} (hX:X<lo) (u0 u1 u2 u3 u4:Value):
  InV (((((w.setCell ⟨X,0,none⟩ u0).setCell ⟨X,1,none⟩ u1).setCell ⟨X,2,none⟩ u2).setCell ⟨X,3,none⟩ u3).setCell ⟨X,4,none⟩ u4) (Be lo B) v x:=
 ((((h.far (a:=⟨X,0,none⟩) hX _).far (a:=⟨X,1,none⟩) hX _).far (a:=⟨X,2,none⟩) hX _).far (a:=⟨X,3,none⟩) hX _).far (a:=⟨X,4,none⟩) hX _
theorem size5 (w:World) (X:Nat) (u0 u1 u2 u3 u4:Value):(((((w.setCell ⟨X,0,none⟩ u0).setCell ⟨X,1,none⟩ u1).setCell ⟨X,2,none⟩ u2).setCell ⟨X,3,none⟩ u3).setCell ⟨X,4,none⟩ u4).heap.size=w.heap.size:=by simp [World.setCell]
theorem Prs.set5 {w:World} {R e:Nat} {ts:List Scn.Tok} {i p a c:Nat} (h:Prs w R e ts i p a c) {X:Nat} (hX:R<X) (u0 u1 u2 u3 u4:Value):
  Prs (((((w.setCell ⟨X,0,none⟩ u0).setCell ⟨X,1,none⟩ u1).setCell ⟨X,2,none⟩ u2).setCell ⟨X,3,none⟩ u3).setCell ⟨X,4,none⟩ u4) R e ts i p a c:=
 ((((h.setY (b:=⟨X,0,none⟩) hX _).setY (b:=⟨X,1,none⟩) hX _).setY (b:=⟨X,2,none⟩) hX _).setY (b:=⟨X,3,none⟩) hX _).setY (b:=⟨X,4,none⟩) hX _
theorem FrX.new5 {C:Nat} {a w:World} (h:FrX C a w) {X:Nat} (hX:a.heap.size<=X) (u0 u1 u2 u3 u4:Value):
  FrX C a (((((w.setCell ⟨X,0,none⟩ u0).setCell ⟨X,1,none⟩ u1).setCell ⟨X,2,none⟩ u2).setCell ⟨X,3,none⟩ u3).setCell ⟨X,4,none⟩ u4):=
 ((((h.setNew (p:=⟨X,0,none⟩) hX _).setNew (p:=⟨X,1,none⟩) hX _).setNew (p:=⟨X,2,none⟩) hX _).setNew (p:=⟨X,3,none⟩) hX _).setNew (p:=⟨X,4,none⟩) hX _

structure PB (R e:Nat) (ts:List Scn.Tok) (w wr:World) (i p a c:Nat) (v:Value) (acc:List JV):Prop where
 pr:Prs wr R e ts i p a c
 vs:VsI wr (w.heap.size+2) (w.heap.size+2) v acc
 len:acc.length<=9000
 bx:Blk wr (w.heap.size+1) #[.int .i64 5,.int .i64 0,.string ⟨#[]⟩,v,.slice none 0 0] 29
 bz:Blk wr w.heap.size zero5 29
 fr:FrX R w wr
theorem PB.keep {R e:Nat} {ts:List Scn.Tok} {w wr w':World} {i p a c:Nat} {v:Value} {acc:List JV} (h:PB R e ts w wr i p a c v acc) (hf:Fr wr w'):PB R e ts w w' i p a c v acc:=
 ⟨h.pr.keep hf,h.vs.keep hf,h.len,h.bx.keep hf,h.bz.keep hf,h.fr.fr hf⟩
theorem PB.next {R e:Nat} {ts:List Scn.Tok} {w wr w':World} {i p a c i' p' a' c':Nat} {v:Value} {acc:List JV} (h:PB R e ts w wr i p a c v acc) (hR:R<w.heap.size) (hp:Prs w' R e ts i' p' a' c') (hf:FrX R wr w'):PB R e ts w w' i' p' a' c' v acc:=
 ⟨hp,h.vs.frx (by omega) hf,h.len,h.bx.frx hf (by omega),h.bz.frx hf (by omega),h.fr.trans hf⟩
theorem PB.done {R e:Nat} {ts:List Scn.Tok} {w wr:World} {i p a c:Nat} {A:Option Addr} {n cc:Nat} {acc:List JV} (h:PB R e ts w wr i p a c (.slice A n cc) acc) (hR:R<w.heap.size) (r:Rd.R)
  (hr:(r=.bad a c/\c≠0)\/(r=.ok (JV.listV acc) (ts.drop i) p/\a=0/\c=0)):
  PVP R e ts w r (.returned (.agg #[.int .i64 5,.int .i64 0,.string ⟨#[]⟩,.slice A n cc,.slice none 0 0])) (((((wr.setCell ⟨w.heap.size,0,none⟩ (.int .i64 5)).setCell ⟨w.heap.size,1,none⟩ (.int .i64 0)).setCell ⟨w.heap.size,2,none⟩ (.string ⟨#[]⟩)).setCell ⟨w.heap.size,3,none⟩ (.slice A n cc)).setCell ⟨w.heap.size,4,none⟩ (.slice none 0 0)):=by
 have hI:=(h.vs.inV (by have:=h.len;omega)).far5 (X:=w.heap.size) (by omega) (.int .i64 5) (.int .i64 0) (.string ⟨#[]⟩) (.slice A n cc) (.slice none 0 0);have hI2:=hI.more (S':=Be w.heap.size wr.heap.size) (λb hb=>⟨by have:=hb.1;omega,hb.2⟩);have hP:=h.pr.set5 (X:=w.heap.size) hR (.int .i64 5) (.int .i64 0) (.string ⟨#[]⟩) (.slice A n cc) (.slice none 0 0);have hF:=h.fr.new5 (X:=w.heap.size) (lR _) (.int .i64 5) (.int .i64 0) (.string ⟨#[]⟩) (.slice A n cc) (.slice none 0 0);rcases hr with ⟨rfl,hc⟩ | ⟨rfl,rfl,rfl⟩
 ·refine ⟨JV.listV acc,5,0,⟨#[]⟩,A,n,cc,none,0,0,rfl,?_,⟨i,p,hP⟩,hc,hF⟩;rw [size5];exact hI2
 ·refine ⟨5,0,⟨#[]⟩,A,n,cc,none,0,0,rfl,?_,⟨i,hP,rfl⟩,hF⟩;rw [size5];exact hI2
theorem PB.app {R e:Nat} {ts:List Scn.Tok} {w w6 w7:World} {i p a c:Nat} {v v7:Value} {acc:List JV} {u:JV} (h:PB R e ts w w6 i p a c v acc) (hR:R<w.heap.size) (hl:acc.length<9000)
  (hv:VsI w7 (w.heap.size+2) (w.heap.size+2) v7 (acc++[u])) (hb:Below (w.heap.size+2) w6 w7) (hk:∀ k,k<w6.heap.size->v.ownBlock≠some k->w7.heap[k]? = w6.heap[k]?):
  PB R e ts w (w7.setCell ⟨w.heap.size+1,3,none⟩ v7) i p a c v7 (acc++[u]):=by
 have hY:Blk w7 (w.heap.size+1) #[.int .i64 5,.int .i64 0,.string ⟨#[]⟩,v,.slice none 0 0] 29:=(hk _ h.bx.lt (λe=>by have:=(h.vs.own_lt e).1;omega)).trans h.bx;have hZ:Blk w7 w.heap.size zero5 29:=(hk _ h.bz.lt (λe=>by have:=(h.vs.own_lt e).1;omega)).trans h.bz;exact ⟨(h.pr.below (Below.mono hb (by omega))).setY (by show R<w.heap.size+1;omega) _,hv.frx (R:=w.heap.size+1) (by omega) ((FrX.refl _ _).setCell rfl _),by simp;omega,hY.set 3 _,hZ.other (by show w.heap.size+1≠w.heap.size;omega) _,(h.fr.beyond hb (by omega)).setNew (by show w.heap.size<=w.heap.size+1;omega) _⟩
theorem PVAt.bad {g R e:Nat} {ts:List Scn.Tok} {i d p:Nat} {w:World} (h:PVAt g) (h1:Prs w R e ts i p 0 0) (h0:ts.length<=140737488355328) (h2:p<=8192) (h3:d<=17) (h5:∀ x∈ts,TokG x) {z:Int} (hz:z=((d:Nat):Int)) {a c:Nat} (hr:Rd.rdV g e (Rd.next e (ts.drop i)) (ts.drop i).tail d p=.bad a c):
  Calls Tryz.prog 53 #[.pointer (some ⟨R,0,none⟩),.int .i64 z] w (PVP R e ts w (.bad a c)):=by
 subst hz;have:=h R e ts i d p w h1 h0 h2 h3 h5 (by rw [hr];simp);rw [hr] at this;exact this
theorem PVAt.ok {g R e:Nat} {ts:List Scn.Tok} {i d p:Nat} {w:World} (h:PVAt g) (h1:Prs w R e ts i p 0 0) (h0:ts.length<=140737488355328) (h2:p<=8192) (h3:d<=17) (h5:∀ x∈ts,TokG x) {z:Int} (hz:z=((d:Nat):Int)) {v:JV} {l:List Scn.Tok} {q:Nat} (hr:Rd.rdV g e (Rd.next e (ts.drop i)) (ts.drop i).tail d p=.ok v l q):
  Calls Tryz.prog 53 #[.pointer (some ⟨R,0,none⟩),.int .i64 z] w (PVP R e ts w (.ok v l q)):=by
 subst hz;have:=h R e ts i d p w h1 h0 h2 h3 h5 (by rw [hr];simp);rw [hr] at this;exact this
theorem VsI.is_slice1 {w:World} {lo base:Nat} {v:Value} {l:List JV} {u:JV} (h:VsI w lo base v (l++[u])):∃ a c,v=.slice a (l.length+1) c:=by
 obtain ⟨a,c,h⟩:=h.is_slice;exact ⟨a,c,by rw [h];simp⟩
theorem drop_tok {ts:List Scn.Tok} {i:Nat} (h:∀ x∈ts,TokG x):∀ x∈ts.drop i,TokOk x:=λx hx=>(h x (List.mem_of_mem_drop hx)).1
theorem tok_kind {ts:List Scn.Tok} {i e k:Nat} {n:Int} {s:List UInt8} {a:Nat} (h:∀ x∈ts,TokG x) (ht:Rd.next e (ts.drop i)=⟨k,n,s,a⟩):k<=4:=by
 rcases hd:ts.drop i with _ | ⟨t,l⟩
 ·rw [hd] at ht;simp [Rd.next] at ht;omega
 ·rw [hd] at ht;have:t=⟨k,n,s,a⟩:=by simpa [Rd.next] using ht
  have h2:=(h t (List.mem_of_mem_drop (by rw [hd];simp))).2;rw [this] at h2;exact h2

theorem plist_is (f:Nat) (hV:∀ g,g<f->PVAt g) (R e:Nat) (ts:List Scn.Tok) (i d p:Nat) (w:World) (h:Prs w R e ts i p 0 0) (hl:ts.length<=140737488355328) (hp:p<=8192) (hd:d<=16) (ht:∀ x∈ts,TokG x) (r:Rd.R)
  (hr:(if Rd.isM (Rd.next e (ts.drop i)) 93 then Rd.R.ok (JV.listV []) (ts.drop i).tail p else Rd.rdL f e (ts.drop i) d p [])=r) (hne:r≠.out):
  Calls Tryz.prog 74 #[.pointer (some ⟨R,0,none⟩),.int .i64 (d:Nat)] w (PVP R e ts w r):=by
 have HP:=LH h;have hlt:=LH h.lt;have hR:=h.lt;have n0:¬ R=w.heap.size:=by omega
 have n1:¬ w.heap.size=R:=by omega
 have n2:¬ R=w.heap.size+1:=by omega
 have n3:¬ w.heap.size+1=R:=by omega
 have hB0:Hid (PB R e ts w ((w.alloc (.cells #[.int .i64 0,.int .i64 0,.string ⟨#[]⟩,.slice none 0 0,.slice none 0 0] 29)).alloc (.cells #[.int .i64 5,.int .i64 0,.string ⟨#[]⟩,.slice none 0 0,.slice none 0 0] 29)) i p 0 0 (.slice none 0 0) []):=
  ⟨(h.keep ((FR w).alloc _)).keep ((FR _).alloc _),VsI.none_ _ (lR _),by simp,by have:=Blk.made (w.alloc (.cells #[.int .i64 0,.int .i64 0,.string ⟨#[]⟩,.slice none 0 0,.slice none 0 0] 29)) #[.int .i64 5,.int .i64 0,.string ⟨#[]⟩,.slice none 0 0,.slice none 0 0] 29;rw [show (w.alloc (.cells #[.int .i64 0,.int .i64 0,.string ⟨#[]⟩,.slice none 0 0,.slice none 0 0] 29)).heap.size=w.heap.size+1 by simp] at this;exact this,(Blk.made w _ _).keep ((FR _).alloc _),FrX.of (((FR w).alloc _).alloc _)⟩
 by_cases hm:Rd.isM (Rd.next e (ts.drop i)) 93=true
 ·rw [if_pos hm] at hr;subst hr;have HM:=LH hm;have hil:=next_lt hm;have htl:(ts.drop i).tail=ts.drop (i+1):=by rw [List.tail_drop]
  rw [htl];clear hm h hne hV htl;go_enter Tryz.func74,Tryz.ntmps74
  go_wp2_with (go_at_call 91;refine (mark_yes R e ts i p 0 0 93 _ hB0.out.pr hl HM.out).mono ?_;rintro x w1 ⟨rfl,hp1,hf⟩;have hb1:=hB0.out.next hlt.out hp1 hf;obtain ⟨⟨x0,x1,x2,x3,x4⟩,g0,g1,g2,g3,g4⟩:=box5 hb1.bx;obtain ⟨⟨y0,y1,y2,y3,y4⟩,f0,f1,f2,f3,f4⟩:=box5 hb1.bz;have HB1:=LH hb1;clear hf hp1 hb1)
  refine bodyPost_ret (results_cell_row (by rfl) _ _ w.heap.size 29 _ (0,0) _ (by rfl) (set5 HB1.out.bz) Tryz.underlying29 rfl (by kernel_rfl)) rfl ?_;exact HB1.out.done hlt.out _ (.inr ⟨rfl,rfl,rfl⟩)
 have hm:Rd.isM (Rd.next e (ts.drop i)) 93=false:=by simpa using hm
 rw [hm,if_neg (by simp)] at hr;have HM:=LH hm;have HRR:=LH hr;have HNE:=LH hne;have HV:=LH hV;have HTK:=LH ht;have hd':(d:Int)<=16:=by omega
 have hwd:IntKind.i64.wrap ((d:Int)+1)=(d:Int)+1:=by rw [IntKind.wrap_i64];omega
 clear hm h ht hne hV hr;go_enter Tryz.func74,Tryz.ntmps74
 go_wp2_with (go_at_call 91;refine (mark_no R e ts i p 0 0 93 _ hB0.out.pr hl HM.out).mono ?_;rintro x w1 ⟨rfl,hf⟩;have HB1:=LH (hB0.out.keep hf);clear hf)
 go_loopg [] f (λm wr=>∃ (i p a c:Nat) (v:Value) (acc:List JV),m<=f/\p<=8192/\Hid (PB R e ts w wr i p a c v acc)/\((a=0/\c=0/\acc.length<=p/\Hid (Rd.rdL m e (ts.drop i) d p acc=r))\/(c≠0/\Hid (r=.bad a c))))
 case atStart=>exact ⟨i,p,0,0,_,[],lR _,hp,HB1,.inl ⟨rfl,rfl,by simp,HRR⟩⟩
 case round=>
  obtain ⟨i,p,a,c,v,acc,hgf,hp8,hI,hrun⟩:=hrel;obtain ⟨sa,sc,rfl⟩:=hI.out.vs.is_slice;have q5:=hI.out.pr.cells.1.2.2.2;rcases hrun with ⟨rfl,rfl,hlen,hrun⟩ | ⟨hc,hbad⟩
  case inr=>
   obtain ⟨⟨x0,x1,x2,x3,x4⟩,g0,g1,g2,g3,g4⟩:=box5 hI.out.bx;obtain ⟨⟨y0,y1,y2,y3,y4⟩,f0,f1,f2,f3,f4⟩:=box5 hI.out.bz;have ec:(((c:Nat):Int) == 0)=false:=by rw [beq_eq_false_iff_ne];omega
   go_wp2_with fail
   refine bodyPost_ret (results_cell_row (by rfl) _ _ w.heap.size 29 _ (0,0) _ (by rfl) (set5 hI.out.bz) Tryz.underlying29 rfl (by kernel_rfl)) rfl ?_;exact hI.out.done hlt.out _ (.inl ⟨hbad.out,hc⟩)
  obtain ⟨m,rfl⟩:∃ m,gk=m+1:=by
   cases gk with
   | zero=>exact absurd (hrun.out.symm.trans (by unfold Rd.rdL;rfl)) HNE.out
   | succ m=>exact ⟨m,rfl⟩
  have hrun:=hrun.out;rw [Rd.rdL_succ] at hrun;have HVm:Hid (PVAt m):=HV.out m (by omega);have hdd:Hid (((d:Int)+1)=((d+1:Nat):Int)):=by show _=_;omega
  have hd17:Hid (d+1<=17):=by show _<=_;omega
  have x3:wr.cell? ⟨w.heap.size+1,3,none⟩=some (.slice sa acc.length sc):=hI.out.bx.cell 3;have five_agg:∀ {k n:Int} {s:ByteArray} {A:Option Addr} {a b:Nat} {A':Option Addr} {a' b':Nat},Five (.agg #[.int .i64 k,.int .i64 n,.string s,.slice A a b,.slice A' a' b']):=λ{_ _ _ _ _ _ _ _ _}=>⟨_,_,_,_,_,rfl,rfl,rfl,rfl,rfl,rfl⟩
  have HS0:Hid (wr.cell? ⟨w.heap.size+1,3,none⟩=some (.slice sa acc.length sc)/\wr.frozen? ⟨w.heap.size+1,3,none⟩=false):=⟨x3,hI.out.bx.free 3⟩;have HSd:Hid (wr.drew.cell? ⟨w.heap.size+1,3,none⟩=some (.slice sa acc.length sc)/\wr.drew.frozen? ⟨w.heap.size+1,3,none⟩=false):=HS0.out;rcases hv:Rd.rdV m e (Rd.next e (ts.drop i)) (ts.drop i).tail (d+1) p with _ | ⟨ba,bc⟩ | ⟨u,l2,p2⟩
  ·rw [hv] at hrun;exact absurd hrun.symm HNE.out
  ·rw [hv] at hrun;simp only at hrun;subst hrun;have HVV:=LH hv;clear hv;have HC:Hid (∀ W,(W=wr\/W=wr.drew)->Calls Tryz.prog 53 #[.pointer (some ⟨R,0,none⟩),.int .i64 ((d:Int)+1)] W λx w6=>∃ (u:JV) (k3 n3:Int) (s3:ByteArray) (A3:Option Addr) (a3 b3:Nat) (A3':Option Addr) (a3' b3':Nat) (i6 p6:Nat),x=.returned (.agg #[.int .i64 k3,.int .i64 n3,.string s3,.slice A3 a3 b3,.slice A3' a3' b3'])/\InV w6 (Be wr.heap.size w6.heap.size) u (.agg #[.int .i64 k3,.int .i64 n3,.string s3,.slice A3 a3 b3,.slice A3' a3' b3'])/\Prs w6 R e ts i6 p6 ba bc/\bc≠0/\FrX R wr w6):=LH (λW hW=>by
    have hpW:Prs W R e ts i p 0 0:=by rcases hW with rfl | rfl;exact hI.out.pr;exact hI.out.pr.keep (FR _).drew
    have hsz:W.heap.size=wr.heap.size:=by rcases hW with rfl | rfl <;> rfl
    have hfW:FrX R wr W:=by rcases hW with rfl | rfl;exact FrX.refl _ _;exact (FrX.refl _ _).drew
    refine (HVm.out.bad hpW hl hp8 hd17.out HTK.out hdd.out HVV.out).mono ?_;rw [<- hsz];rintro x w6 ⟨u,k3,n3,s3,A3,a3,b3,A3',a3',b3',rfl,hin,⟨i6,p6,hp6⟩,hbc,hf6⟩;exact ⟨u,k3,n3,s3,A3,a3,b3,A3',a3',b3',i6,p6,rfl,hin,hp6,hbc,hfW.trans hf6⟩)
   go_wp2_with fail
   go_region_law (first
     | (refine step_vs (by rfl) (.tmp 16) (.tmp 21) (by rfl) (w.heap.size+2) (w.heap.size+2) HL6.out _ acc (by rfl) HB6.out.vs u five_agg HU6.out (by rfl) (by rfl) (by omega) ?_;intro v7 w7 hv7 hb7 hk7;obtain ⟨a7,c7,rfl⟩:=hv7.is_slice1;have hb8:=HB6.out.app hlt.out (by omega) hv7 hb7 hk7;have HB8:=LH hb8;have hy7:Blk w7 _ _ _:=(hk7 _ HB6.out.bx.lt (λe=>by have:=(HB6.out.vs.own_lt e).1;omega)).trans HB6.out.bx;have HS7:Hid (w7.cell? ⟨w.heap.size+1,3,none⟩=some (.slice sa acc.length sc)/\w7.frozen? ⟨w.heap.size+1,3,none⟩=false):=⟨hy7.cell 3,hy7.free 3⟩;have x37:=HS7.out.1;have f37:=HS7.out.2;clear hv7 hb7 hk7 hb8 hy7)
     | (go_simp;go_at_call 53;refine (HC.out _ (by first | with_reducible exact Or.inl rfl | with_reducible exact Or.inr rfl)).mono ?_;rintro x w6 ⟨u,k3,n3,s3,A3,a3,b3,A3',a3',b3',i6,p6,rfl,hin,hp6,hbc,hf6⟩;have hb6:=hI.out.next hlt.out hp6 hf6;have HS5:Hid (w6.cell? ⟨w.heap.size+1,3,none⟩=some (.slice sa acc.length sc)/\w6.frozen? ⟨w.heap.size+1,3,none⟩=false):=⟨hb6.bx.cell 3,hb6.bx.free 3⟩;have HS6:Hid (∀ ob,(w6.alloc ob).cell? ⟨w.heap.size+1,3,none⟩=some (.slice sa acc.length sc)/\(w6.alloc ob).frozen? ⟨w.heap.size+1,3,none⟩=false):=(λob=>⟨(hb6.bx.keep ((FR _).alloc ob)).cell 3,(hb6.bx.keep ((FR _).alloc ob)).free 3⟩);have HU6:=LH (hin.more (In.new hI.out.vs (show w.heap.size+2<=wr.heap.size from hI.out.bx.lt) (lR _)));have HL6:Hid (w.heap.size+2<=w6.heap.size):=hb6.bx.lt;have HB6:=LH hb6;have x36:=HS5.out.1;have f36:=HS5.out.2;have x36a:=λob=>(HS6.out ob).1;have f36a:=λob=>(HS6.out ob).2;clear hp6 hf6 hb6 hin))
   all_goals
    generalize (w7.setCell ⟨w.heap.size+1,3,none⟩ (.slice a7 (acc.length+1) c7))=W8 at HB8 ⊢;have q8:=HB8.out.pr.cells.1.2.2.2;obtain ⟨⟨x0,x1,x2,x3,x4⟩,g0,g1,g2,g3,g4⟩:=box5 HB8.out.bx;obtain ⟨⟨y0,y1,y2,y3,y4⟩,f0,f1,f2,f3,f4⟩:=box5 HB8.out.bz;have ec:(((bc:Nat):Int) != 0)=true:=by rw [bne_iff_ne];omega
    go_wp2_with fail
    refine bodyPost_ret (results_cell_row (by rfl) _ _ w.heap.size 29 _ (0,0) _ (by rfl) (set5 HB8.out.bz) Tryz.underlying29 rfl (by kernel_rfl)) rfl ?_;exact HB8.out.done hlt.out _ (.inl ⟨rfl,hbc⟩)
  rw [hv] at hrun;simp only at hrun;have HVV:=LH hv;have hs:=(Rd.rd_sorts m).1 _ _ _ _ _ _ _ _ hv;have hp2:p+1<=p2/\p2<=8192:=by
   have:=Rd.nv_pos u;omega
  clear hv hs;have HC:Hid (∀ W,(W=wr\/W=wr.drew)->Calls Tryz.prog 53 #[.pointer (some ⟨R,0,none⟩),.int .i64 ((d:Int)+1)] W λx w6=>∃ (k3 n3:Int) (s3:ByteArray) (A3:Option Addr) (a3 b3:Nat) (A3':Option Addr) (a3' b3':Nat) (i6:Nat),x=.returned (.agg #[.int .i64 k3,.int .i64 n3,.string s3,.slice A3 a3 b3,.slice A3' a3' b3'])/\InV w6 (Be wr.heap.size w6.heap.size) u (.agg #[.int .i64 k3,.int .i64 n3,.string s3,.slice A3 a3 b3,.slice A3' a3' b3'])/\Prs w6 R e ts i6 p2 0 0/\ts.drop i6=l2/\FrX R wr w6):=LH (λW hW=>by
   have hpW:Prs W R e ts i p 0 0:=by rcases hW with rfl | rfl;exact hI.out.pr;exact hI.out.pr.keep (FR _).drew
   have hsz:W.heap.size=wr.heap.size:=by rcases hW with rfl | rfl <;> rfl
   have hfW:FrX R wr W:=by rcases hW with rfl | rfl;exact FrX.refl _ _;exact (FrX.refl _ _).drew
   refine (HVm.out.ok hpW hl hp8 hd17.out HTK.out hdd.out HVV.out).mono ?_;rw [<- hsz];rintro x w6 ⟨k3,n3,s3,A3,a3,b3,A3',a3',b3',rfl,hin,⟨i6,hp6,hdr⟩,hf6⟩;exact ⟨k3,n3,s3,A3,a3,b3,A3',a3',b3',i6,rfl,hin,hp6,hdr,hfW.trans hf6⟩)
  go_wp2_with fail
  go_region_law (first
    | (refine step_vs (by rfl) (.tmp 16) (.tmp 21) (by rfl) (w.heap.size+2) (w.heap.size+2) HL6.out _ acc (by rfl) HB6.out.vs u five_agg HU6.out (by rfl) (by rfl) (by omega) ?_;intro v7 w7 hv7 hb7 hk7;obtain ⟨a7,c7,rfl⟩:=hv7.is_slice1;have hb8:=HB6.out.app hlt.out (by omega) hv7 hb7 hk7;have HB8:=LH hb8;have hy7:Blk w7 _ _ _:=(hk7 _ HB6.out.bx.lt (λe=>by have:=(HB6.out.vs.own_lt e).1;omega)).trans HB6.out.bx;have HS7:Hid (w7.cell? ⟨w.heap.size+1,3,none⟩=some (.slice sa acc.length sc)/\w7.frozen? ⟨w.heap.size+1,3,none⟩=false):=⟨hy7.cell 3,hy7.free 3⟩;have x37:=HS7.out.1;have f37:=HS7.out.2;clear hv7 hb7 hk7 hb8 hy7)
    | (go_simp;go_at_call 53;refine (HC.out _ (by first | with_reducible exact Or.inl rfl | with_reducible exact Or.inr rfl)).mono ?_;rintro x w6 ⟨k3,n3,s3,A3,a3,b3,A3',a3',b3',i6,rfl,hin,hp6,hdr6,hf6⟩;have hb6:=hI.out.next hlt.out hp6 hf6;have HS5:Hid (w6.cell? ⟨w.heap.size+1,3,none⟩=some (.slice sa acc.length sc)/\w6.frozen? ⟨w.heap.size+1,3,none⟩=false):=⟨hb6.bx.cell 3,hb6.bx.free 3⟩;have HS6:Hid (∀ ob,(w6.alloc ob).cell? ⟨w.heap.size+1,3,none⟩=some (.slice sa acc.length sc)/\(w6.alloc ob).frozen? ⟨w.heap.size+1,3,none⟩=false):=(λob=>⟨(hb6.bx.keep ((FR _).alloc ob)).cell 3,(hb6.bx.keep ((FR _).alloc ob)).free 3⟩);have HU6:=LH (hin.more (In.new hI.out.vs (show w.heap.size+2<=wr.heap.size from hI.out.bx.lt) (lR _)));have HL6:Hid (w.heap.size+2<=w6.heap.size):=hb6.bx.lt;have HB6:=LH hb6;have x36:=HS5.out.1;have f36:=HS5.out.2;have x36a:=λob=>(HS6.out ob).1;have f36a:=λob=>(HS6.out ob).2;clear hp6 hf6 hb6 hin))
  all_goals
   subst hdr6;generalize (w7.setCell ⟨w.heap.size+1,3,none⟩ (.slice a7 (acc.length+1) c7))=W8 at HB8 ⊢;have q8:=HB8.out.pr.cells.1.2.2.2;by_cases h93:Rd.isM (Rd.next e (ts.drop i6)) 93=true
   ·rw [if_pos h93,List.tail_drop] at hrun;subst hrun;have H93:=LH h93;clear h93;go_wp2_with (go_at_call 91;refine (mark_yes R e ts i6 p2 0 0 93 _ HB8.out.pr hl H93.out).mono ?_;rintro x w9 ⟨rfl,hp9,hf⟩;have hb9:=HB8.out.next hlt.out hp9 hf;obtain ⟨⟨x0,x1,x2,x3,x4⟩,g0,g1,g2,g3,g4⟩:=box5 hb9.bx;obtain ⟨⟨y0,y1,y2,y3,y4⟩,f0,f1,f2,f3,f4⟩:=box5 hb9.bz;have HB9:=LH hb9;clear hf hp9 hb9)
    refine bodyPost_ret (results_cell_row (by rfl) _ _ w.heap.size 29 _ (0,0) _ (by rfl) (set5 HB9.out.bz) Tryz.underlying29 rfl (by kernel_rfl)) rfl ?_;exact HB9.out.done hlt.out _ (.inr ⟨rfl,rfl,rfl⟩)
   have h93:Rd.isM (Rd.next e (ts.drop i6)) 93=false:=by simpa using h93
   rw [h93,if_neg (by simp)] at hrun;have H93:=LH h93;clear h93;have M93:Hid (Calls Tryz.prog 91 #[.pointer (some ⟨R,0,none⟩),.string ⟨[93].toArray⟩] W8 λx w'=>x=.returned (.bool false)/\Fr W8 w'):=mark_no R e ts i6 p2 0 0 93 _ HB8.out.pr hl H93.out;by_cases h44:Rd.isM (Rd.next e (ts.drop i6)) 44=true
   ·rw [if_pos h44,List.tail_drop] at hrun;have H44:=LH h44;have HRUN:=LH hrun;clear h44 hrun;go_wp2_with (first
     | (go_at_call 91;have hm:=HB9.out;refine (mark_yes R e ts i6 p2 0 0 44 _ hm.pr hl H44.out).mono ?_;rintro x w10 ⟨rfl,hp10,hf⟩;have HB10:=LH (hm.next hlt.out hp10 hf);clear hf hp10 hm)
     | (go_at_call 91;refine M93.out.mono ?_;rintro x w9 ⟨rfl,hf⟩;have HB9:=LH (HB8.out.keep hf);clear hf))
    go_roundg m
    case measure=>omega
    case rel=>exact ⟨i6+1,p2,0,0,_,acc++[u],by omega,hp2.2,HB10,.inl ⟨rfl,rfl,by simp;omega,HRUN⟩⟩
   ·have h44:Rd.isM (Rd.next e (ts.drop i6)) 44=false:=by simpa using h44
    rw [h44,if_neg (by simp)] at hrun;have H44:=LH h44;have HRUN:=LH hrun;clear h44 hrun;go_wp2_with (first
     | (go_at_call 54;have hm:=HB10.out;refine (fail_is R e ts i6 p2 50 _ hm.pr hl 50 rfl _ rfl).mono ?_;rintro x w11 ⟨rfl,hp11,hf⟩;have HB11:=LH (hm.next hlt.out hp11 hf);clear hf hp11 hm)
     | (go_at_call 91;have hm:=HB9.out;refine (mark_no R e ts i6 p2 0 0 44 _ hm.pr hl H44.out).mono ?_;rintro x w10 ⟨rfl,hf⟩;have HB10:=LH (hm.keep hf);clear hf hm)
     | (go_at_call 91;refine M93.out.mono ?_;rintro x w9 ⟨rfl,hf⟩;have HB9:=LH (HB8.out.keep hf);clear hf))
    go_roundg m
    case measure=>omega
    case rel=>exact ⟨i6,p2,_,50,_,acc++[u],by omega,hp2.2,HB11,.inr ⟨by decide,HRUN.out.symm⟩⟩
end Go.Proofs.YtockgemmkjdnkaaGreatDoor
