/- The walk of the document's reader: maps; so the whole of it. -/
import Derived.Test.YtockgemmkjdnkaaGreatDoorRpc
import Derived.Test.YtockgemmkjdnkaaGreatDoorRdb
set_option maxRecDepth 100000
set_option maxHeartbeats 4000000
set_option linter.unusedVariables false
set_option linter.unusedSimpArgs false
namespace Go.Proofs.YtockgemmkjdnkaaGreatDoor
open Go.RowKit

structure PN (R e:Nat) (ts:List Scn.Tok) (w wr:World) (i p a c:Nat) (v:Value) (acc:List (List UInt8 × JV)):Prop where
 pr:Prs wr R e ts i p a c
 ms:MsI wr (w.heap.size+2) (w.heap.size+2) v acc
 len:acc.length<=9000
 bx:Blk wr (w.heap.size+1) #[.int .i64 6,.int .i64 0,.string ⟨#[]⟩,.slice none 0 0,v] 29
 bz:Blk wr w.heap.size zero5 29
 fr:FrX R w wr
theorem PN.keep {R e:Nat} {ts:List Scn.Tok} {w wr w':World} {i p a c:Nat} {v:Value} {acc:List (List UInt8 × JV)} (h:PN R e ts w wr i p a c v acc) (hf:Fr wr w'):PN R e ts w w' i p a c v acc:=
 ⟨h.pr.keep hf,h.ms.keep hf,h.len,h.bx.keep hf,h.bz.keep hf,h.fr.fr hf⟩
theorem PN.next {R e:Nat} {ts:List Scn.Tok} {w wr w':World} {i p a c i' p' a' c':Nat} {v:Value} {acc:List (List UInt8 × JV)} (h:PN R e ts w wr i p a c v acc) (hR:R<w.heap.size) (hp:Prs w' R e ts i' p' a' c') (hf:FrX R wr w'):PN R e ts w w' i' p' a' c' v acc:=
 ⟨hp,h.ms.frx (by omega) hf,h.len,h.bx.frx hf (by omega),h.bz.frx hf (by omega),h.fr.trans hf⟩
theorem PN.zero {R e:Nat} {ts:List Scn.Tok} {w wr:World} {i p a c:Nat} {v:Value} {acc:List (List UInt8 × JV)} (h:PN R e ts w wr i p a c v acc) (hR:R<w.heap.size) (hc:c≠0) (r:Rd.R) (hr:r=.bad a c):
  PVP R e ts w r (.returned (.agg #[.int .i64 0,.int .i64 0,.string ⟨#[]⟩,.slice none 0 0,.slice none 0 0])) (((((wr.setCell ⟨w.heap.size,0,none⟩ (.int .i64 0)).setCell ⟨w.heap.size,1,none⟩ (.int .i64 0)).setCell ⟨w.heap.size,2,none⟩ (.string ⟨#[]⟩)).setCell ⟨w.heap.size,3,none⟩ (.slice none 0 0)).setCell ⟨w.heap.size,4,none⟩ (.slice none 0 0)):=by
 subst hr;exact PVP.zero (h.pr.set5 hR _ _ _ _ _) hc (h.fr.new5 (lR _) _ _ _ _ _)
theorem PN.done {R e:Nat} {ts:List Scn.Tok} {w wr:World} {i p a c:Nat} {A:Option Addr} {n cc:Nat} {acc:List (List UInt8 × JV)} (h:PN R e ts w wr i p a c (.slice A n cc) acc) (hR:R<w.heap.size) (r:Rd.R)
  (hr:(r=.bad a c/\c≠0)\/(r=.ok (JV.mapV acc) (ts.drop i) p/\a=0/\c=0)):
  PVP R e ts w r (.returned (.agg #[.int .i64 6,.int .i64 0,.string ⟨#[]⟩,.slice none 0 0,.slice A n cc])) (((((wr.setCell ⟨w.heap.size,0,none⟩ (.int .i64 6)).setCell ⟨w.heap.size,1,none⟩ (.int .i64 0)).setCell ⟨w.heap.size,2,none⟩ (.string ⟨#[]⟩)).setCell ⟨w.heap.size,3,none⟩ (.slice none 0 0)).setCell ⟨w.heap.size,4,none⟩ (.slice A n cc)):=by
 have hI:=(h.ms.inV (by have:=h.len;omega)).far5 (X:=w.heap.size) (by omega) (.int .i64 6) (.int .i64 0) (.string ⟨#[]⟩) (.slice none 0 0) (.slice A n cc);have hI2:=hI.more (S':=Be w.heap.size wr.heap.size) (λb hb=>⟨by have:=hb.1;omega,hb.2⟩);have hP:=h.pr.set5 (X:=w.heap.size) hR (.int .i64 6) (.int .i64 0) (.string ⟨#[]⟩) (.slice none 0 0) (.slice A n cc);have hF:=h.fr.new5 (X:=w.heap.size) (lR _) (.int .i64 6) (.int .i64 0) (.string ⟨#[]⟩) (.slice none 0 0) (.slice A n cc);rcases hr with ⟨rfl,hc⟩ | ⟨rfl,rfl,rfl⟩
 ·refine ⟨JV.mapV acc,6,0,⟨#[]⟩,none,0,0,A,n,cc,rfl,?_,⟨i,p,hP⟩,hc,hF⟩;rw [size5];exact hI2
 ·refine ⟨6,0,⟨#[]⟩,none,0,0,A,n,cc,rfl,?_,⟨i,hP,rfl⟩,hF⟩;rw [size5];exact hI2
theorem PN.app {R e:Nat} {ts:List Scn.Tok} {w w6 w7:World} {i p a c:Nat} {v v7:Value} {acc:List (List UInt8 × JV)} {u:List UInt8 × JV} (h:PN R e ts w w6 i p a c v acc) (hR:R<w.heap.size) (hl:acc.length<9000)
  (hv:MsI w7 (w.heap.size+2) (w.heap.size+2) v7 (acc++[u])) (hb:Below (w.heap.size+2) w6 w7) (hk:∀ k,k<w6.heap.size->v.ownBlock≠some k->w7.heap[k]? = w6.heap[k]?):
  PN R e ts w (w7.setCell ⟨w.heap.size+1,4,none⟩ v7) i p a c v7 (acc++[u]):=by
 have hY:Blk w7 (w.heap.size+1) #[.int .i64 6,.int .i64 0,.string ⟨#[]⟩,.slice none 0 0,v] 29:=(hk _ h.bx.lt (λe=>by have:=(h.ms.own_lt e).1;omega)).trans h.bx;have hZ:Blk w7 w.heap.size zero5 29:=(hk _ h.bz.lt (λe=>by have:=(h.ms.own_lt e).1;omega)).trans h.bz;exact ⟨(h.pr.below (Below.mono hb (by omega))).setY (by show R<w.heap.size+1;omega) _,hv.frx (R:=w.heap.size+1) (by omega) ((FrX.refl _ _).setCell rfl _),by simp;omega,hY.set 4 _,hZ.other (by show w.heap.size+1≠w.heap.size;omega) _,(h.fr.beyond hb (by omega)).setNew (by show w.heap.size<=w.heap.size+1;omega) _⟩
theorem MsI.is_slice1 {w:World} {lo base:Nat} {v:Value} {l:List (List UInt8 × JV)} {u:List UInt8 × JV} (h:MsI w lo base v (l++[u])):∃ a c,v=.slice a (l.length+1) c:=by
 obtain ⟨a,c,h⟩:=h.is_slice;exact ⟨a,c,by rw [h];simp⟩
theorem MsI.names {w:World} {lo base:Nat} {A:Option Addr} {n c:Nat} {l:List (List UInt8 × JV)} (h:MsI w lo base (.slice A n c) l) (h63:l.length<=140737488355328):∀ t (ht:t<l.length),∃ b o,A=some ⟨b,o,none⟩/\b<w.heap.size/\w.cell? ⟨b,o+t*6,none⟩=some (.string ⟨l[t].1.toArray⟩)/\l[t].1.length<=140737488355328:=by
 intro t ht;obtain ⟨B,d,B',d',he,_,hms⟩:=(h.inV h63).open_;obtain ⟨b,o,_,_,_,_,hB,hS,hn,hc,_⟩:=hms t ht;have:A=B':=by obtain ⟨_,_,_,_,e4⟩:=five he;injection e4
 exact ⟨b,o,this.trans hB,hS.2,hc,hn⟩

theorem pmembers_is (f:Nat) (hV:∀ g,g<f->PVAt g) (R e:Nat) (ts:List Scn.Tok) (i d p:Nat) (w:World) (h:Prs w R e ts i p 0 0) (hl:ts.length<=140737488355328) (hp:p<=8192) (hd:d<=16) (ht:∀ x∈ts,TokG x) (r:Rd.R)
  (hr:(if Rd.isM (Rd.next e (ts.drop i)) 125 then Rd.R.ok (JV.mapV []) (ts.drop i).tail p else Rd.rdM f e (ts.drop i) d p [])=r) (hne:r≠.out):
  Calls Tryz.prog 75 #[.pointer (some ⟨R,0,none⟩),.int .i64 (d:Nat)] w (PVP R e ts w r):=by
 have HP:=LH h;have hlt:=LH h.lt;have hR:=h.lt;have n0:¬ R=w.heap.size:=by omega
 have n1:¬ w.heap.size=R:=by omega
 have n2:¬ R=w.heap.size+1:=by omega
 have n3:¬ w.heap.size+1=R:=by omega
 have hB0:Hid (PN R e ts w ((w.alloc (.cells #[.int .i64 0,.int .i64 0,.string ⟨#[]⟩,.slice none 0 0,.slice none 0 0] 29)).alloc (.cells #[.int .i64 6,.int .i64 0,.string ⟨#[]⟩,.slice none 0 0,.slice none 0 0] 29)) i p 0 0 (.slice none 0 0) []):=
  ⟨(h.keep ((FR w).alloc _)).keep ((FR _).alloc _),MsI.none_ _ (lR _),by simp,by have:=Blk.made (w.alloc (.cells #[.int .i64 0,.int .i64 0,.string ⟨#[]⟩,.slice none 0 0,.slice none 0 0] 29)) #[.int .i64 6,.int .i64 0,.string ⟨#[]⟩,.slice none 0 0,.slice none 0 0] 29;rw [show (w.alloc (.cells #[.int .i64 0,.int .i64 0,.string ⟨#[]⟩,.slice none 0 0,.slice none 0 0] 29)).heap.size=w.heap.size+1 by simp] at this;exact this,(Blk.made w _ _).keep ((FR _).alloc _),FrX.of (((FR w).alloc _).alloc _)⟩
 by_cases hm:Rd.isM (Rd.next e (ts.drop i)) 125=true
 ·rw [if_pos hm] at hr;subst hr;have HM:=LH hm;have hil:=next_lt hm;have htl:(ts.drop i).tail=ts.drop (i+1):=by rw [List.tail_drop]
  rw [htl];clear hm h hne hV htl;go_enter Tryz.func75,Tryz.ntmps75
  go_wp2_with (go_at_call 91;refine (mark_yes R e ts i p 0 0 125 _ hB0.out.pr hl HM.out).mono ?_;rintro x w1 ⟨rfl,hp1,hf⟩;have hb1:=hB0.out.next hlt.out hp1 hf;obtain ⟨⟨x0,x1,x2,x3,x4⟩,g0,g1,g2,g3,g4⟩:=box5 hb1.bx;obtain ⟨⟨y0,y1,y2,y3,y4⟩,f0,f1,f2,f3,f4⟩:=box5 hb1.bz;have HB1:=LH hb1;clear hf hp1 hb1)
  refine bodyPost_ret (results_cell_row (by rfl) _ _ w.heap.size 29 _ (0,0) _ (by rfl) (set5 HB1.out.bz) Tryz.underlying29 rfl (by kernel_rfl)) rfl ?_;exact HB1.out.done hlt.out _ (.inr ⟨rfl,rfl,rfl⟩)
 have hm:Rd.isM (Rd.next e (ts.drop i)) 125=false:=by simpa using hm
 rw [hm,if_neg (by simp)] at hr;have HM:=LH hm;have HRR:=LH hr;have HNE:=LH hne;have HV:=LH hV;have HTK:=LH ht;have hd':(d:Int)<=16:=by omega
 have hwd:IntKind.i64.wrap ((d:Int)+1)=(d:Int)+1:=by rw [IntKind.wrap_i64];omega
 clear hm h ht hne hV hr;go_enter Tryz.func75,Tryz.ntmps75
 go_wp2_with (go_at_call 91;refine (mark_no R e ts i p 0 0 125 _ hB0.out.pr hl HM.out).mono ?_;rintro x w1 ⟨rfl,hf⟩;have HB1:=LH (hB0.out.keep hf);clear hf)
 go_loopg [] f (λm wr=>∃ (i p a c:Nat) (v:Value) (acc:List (List UInt8 × JV)),m<=f/\p<=8192/\Hid (PN R e ts w wr i p a c v acc)/\((a=0/\c=0/\acc.length<=p/\Hid (Rd.rdM m e (ts.drop i) d p acc=r))\/(c≠0/\Hid (r=.bad a c))))
 case atStart=>exact ⟨i,p,0,0,_,[],lR _,hp,HB1,.inl ⟨rfl,rfl,by simp,HRR⟩⟩
 case round=>
  obtain ⟨i,p,a,c,v,acc,hgf,hp8,hI,hrun⟩:=hrel;obtain ⟨sa,sc,rfl⟩:=hI.out.ms.is_slice;have q5:=hI.out.pr.cells.1.2.2.2;rcases hrun with ⟨rfl,rfl,hlen,hrun⟩ | ⟨hc,hbad⟩
  case inr=>
   obtain ⟨⟨x0,x1,x2,x3,x4⟩,g0,g1,g2,g3,g4⟩:=box5 hI.out.bx;obtain ⟨⟨y0,y1,y2,y3,y4⟩,f0,f1,f2,f3,f4⟩:=box5 hI.out.bz;have ec:(((c:Nat):Int) == 0)=false:=by rw [beq_eq_false_iff_ne];omega
   go_wp2_with fail
   refine bodyPost_ret (results_cell_row (by rfl) _ _ w.heap.size 29 _ (0,0) _ (by rfl) (set5 hI.out.bz) Tryz.underlying29 rfl (by kernel_rfl)) rfl ?_;exact hI.out.done hlt.out _ (.inl ⟨hbad.out,hc⟩)
  obtain ⟨m,rfl⟩:∃ m,gk=m+1:=by
   cases gk with
   | zero=>exact absurd (hrun.out.symm.trans (by unfold Rd.rdM;rfl)) HNE.out
   | succ m=>exact ⟨m,rfl⟩
  have hrun:=hrun.out;rw [Rd.rdM_succ] at hrun;have HVm:Hid (PVAt m):=HV.out m (by omega);have hdd:Hid (((d:Int)+1)=((d+1:Nat):Int)):=by show _=_;omega
  have hd17:Hid (d+1<=17):=by show _<=_;omega
  have five_agg:∀ {k n:Int} {s:ByteArray} {A:Option Addr} {a b:Nat} {A':Option Addr} {a' b':Nat},Five (.agg #[.int .i64 k,.int .i64 n,.string s,.slice A a b,.slice A' a' b']):=λ{_ _ _ _ _ _ _ _ _}=>⟨_,_,_,_,_,rfl,rfl,rfl,rfl,rfl,rfl⟩
  obtain ⟨⟨k,n,s,a⟩,ht⟩:∃ t,Rd.next e (ts.drop i)=t:=⟨_,rfl⟩;rw [ht] at hrun;simp only [List.tail_drop] at hrun;have HT:=LH ht;have hsl:s.length<=140737488355328:=by have:=next_ok (e:=e) (drop_tok (i:=i) HTK.out);rw [ht] at this;exact this.1
  have hil:k=4->i<ts.length:=λhk=>by
   rcases Nat.lt_or_ge i ts.length with h9 | h9
   ·exact h9
   ·rw [List.drop_eq_nil_of_le h9] at ht;simp [Rd.next] at ht;omega
  clear ht;by_cases hk:k=4
  case neg=>
   rw [if_pos hk] at hrun;have k4:(((k:Nat):Int) != 4)=true:=by rw [bne_iff_ne];omega
   go_wp2_with (first
    | (go_at_call 54;have hm:=HB2.out;refine (fail_is R e ts i p 50 _ hm.pr hl 50 rfl _ HT.out).mono ?_;rintro x w30 ⟨rfl,hp30,hf⟩;have hb30:=hm.next hlt.out hp30 hf;obtain ⟨⟨y0,y1,y2,y3,y4⟩,f0,f1,f2,f3,f4⟩:=box5 hb30.bz;have HB30:=LH hb30;clear hf hp30 hb30 hm)
    | (go_at_call 73;refine (token_at R e ts i p 0 0 _ HT.out _ hI.out.pr hl).mono ?_;rintro x w2 ⟨rfl,hf⟩;have HB2:=LH ((hI.out.keep hf).keep ((FR _).alloc (.cells #[.int .i64 (k:Nat),.int .i64 n,.string ⟨s.toArray⟩,.int .i64 (a:Nat)] 81)));clear hf))
   refine bodyPost_ret (results_cell_row (by rfl) _ _ w.heap.size 29 _ (0,0) _ (by rfl) (set5 HB30.out.bz) Tryz.underlying29 rfl (by kernel_rfl)) rfl ?_;exact HB30.out.zero hlt.out (by decide) _ hrun.symm
  subst hk;rw [if_neg (by simp)] at hrun;have hil:=hil rfl;have hi2:(i:Int)<=140737488355328:=by omega
  go_wp2_with (go_at_call 73;refine (token_at R e ts i p 0 0 _ HT.out _ hI.out.pr hl).mono ?_;rintro x w2 ⟨rfl,hf⟩;have HB2:=LH ((hI.out.keep hf).keep ((FR _).alloc (.cells #[.int .i64 4,.int .i64 n,.string ⟨s.toArray⟩,.int .i64 (a:Nat)] 81)));have HZ2:=LH (Blk.made w2 #[.int .i64 4,.int .i64 n,.string ⟨s.toArray⟩,.int .i64 (a:Nat)] 81);have hzR:R<w2.heap.size:=(lL hlt.out (lT hI.out.fr.size hf.size));have hzY:w.heap.size+1<w2.heap.size:=lL hI.out.bx.lt hf.size;have hzO:Hid (∀ b,(Value.slice sa acc.length sc).ownBlock=some b->b<w2.heap.size):=LH (λb hb=>lL (hI.out.ms.own_lt hb).2 hf.size);clear hf)
  generalize (w2.alloc (.cells #[.int .i64 4,.int .i64 n,.string ⟨s.toArray⟩,.int .i64 (a:Nat)] 81))=W2 at HB2 HZ2 ⊢;generalize w2.heap.size=z at HZ2 hzR hzY hzO ⊢;have m0:¬ z=R:=by omega
  have m1:¬ R=z:=by omega
  have HNM:=LH (HB2.out.ms.names (by have:=HB2.out.len;omega));have hMi:(acc.length:Int)<=9000:=by have:=HB2.out.len;omega
  go_loopw [7] (λj ws=>∃ t:Nat,t<=acc.length/\j=.int .i64 t/\Hid (∀ y (hy:y<acc.length),y<t->acc[y].1≠s)/\Hid (Fr W2 ws)) (λj _=>acc.length - (intOf j).toNat)
  case atStart=>exact ⟨0,by omega,rfl,LH (λy _ h=>absurd h (by omega)),LH (FR _)⟩
  case round=>
   obtain ⟨t,htl,rfl,hD,hF⟩:=hrel;have HBs:=LH (HB2.out.keep hF.out);have x4:wr.cell? ⟨w.heap.size+1,4,none⟩=some (.slice sa acc.length sc):=HBs.out.bx.cell 4;have z2:wr.cell? ⟨z,2,none⟩=some (.string ⟨s.toArray⟩):=(HZ2.out.keep hF.out).cell 2;by_cases hta:t<acc.length
   ·have hta':(t:Int)<(acc.length:Int):=by omega
    obtain ⟨b,o,rfl,hbW,c0,hnl⟩:=HNM.out t hta;obtain ⟨nt,hnt⟩:∃ nt,acc[t].1=nt:=⟨_,rfl⟩;rw [hnt] at c0 hnl;have k0:=(hF.out.cell hbW).trans c0;have HNT:=LH hnt;clear hnt c0;by_cases hc:nt=s
    ·have hmem:s∈acc.map (·.1):=List.mem_map.2 ⟨acc[t],List.getElem_mem hta,HNT.out.trans hc⟩;rw [if_pos hmem] at hrun;subst hc;clear hmem;have hcmp:((⟨nt.toArray⟩:ByteArray).toList == (⟨nt.toArray⟩:ByteArray).toList)=true:=beq_self_eq_true _;go_wp2_with fail
     go_quiet (fail)
     go_wp2_with (go_at_call 54;refine (fail_is R e ts i p 52 _ (HBs.out.pr.drewN _) hl 52 rfl _ HT.out).mono ?_;rintro x w30 ⟨rfl,hp30,hf⟩;have hb30:=(HBs.out.keep ((FR wr).drewN _)).next hlt.out hp30 hf;obtain ⟨⟨y0,y1,y2,y3,y4⟩,f0,f1,f2,f3,f4⟩:=box5 hb30.bz;have HB30:=LH hb30;clear hf hp30 hb30)
     refine bodyPost_ret (results_cell_row (by rfl) _ _ w.heap.size 29 _ (0,0) _ (by rfl) (set5 HB30.out.bz) Tryz.underlying29 rfl (by kernel_rfl)) rfl ?_;exact HB30.out.zero hlt.out (by decide) _ hrun.symm
    ·have hcmp:((⟨nt.toArray⟩:ByteArray).toList == (⟨s.toArray⟩:ByteArray).toList)=false:=by rw [bl_beq];exact dF hc
     have hcmp2:(nt == s)=false:=by rw [beq_eq_false_iff_ne];exact hc
     have HCN:=LH hc;clear hc;go_wp2_with fail
     go_quiet (fail)
     go_wp2_with fail
     exact ⟨⟨t+1,by omega,by go_num,LH (λy hy hyt=>by
      by_cases e:y=t
      ·subst e;rw [HNT.out];exact HCN.out
      ·exact hD.out y hy (by omega)),LH (Fr.drewN hF.out _)⟩,by simp [intOf];omega⟩
   ·obtain rfl:t=acc.length:=by omega
    have hmem:¬ s∈acc.map (·.1):=by
     intro hmem;obtain ⟨q,hq,hqe⟩:=List.mem_map.1 hmem;obtain ⟨y,hy,rfl⟩:=List.mem_iff_getElem.1 hq;exact hD.out y hy hy hqe
    rw [if_neg hmem] at hrun;clear hmem hta;have c2:=HBs.out.pr.cells.1.1;have cz:=HBs.out.pr.cells.2;have HPs:=LH (HBs.out.next hlt.out (HBs.out.pr.setI (z:=(i:Int)+1) (j:=i+1) (by omega) (by omega)) ((FrX.refl R wr).setCell rfl _));have HZs:=LH ((HZ2.out.keep hF.out).other (p:=⟨R,2,none⟩) (by show R≠z;omega) (.int .i64 ((i:Int)+1)));by_cases h58:Rd.isM (Rd.next e (ts.drop (i+1))) 58=true
    case neg=>
     have h58:Rd.isM (Rd.next e (ts.drop (i+1))) 58=false:=by simpa using h58
     rw [if_pos h58] at hrun;have H58:=LH h58;clear h58;go_wp2_with (first
      | (go_at_call 54;have hm:=HB5.out;refine (fail_is R e ts (i+1) p 50 _ hm.pr hl 50 rfl _ rfl).mono ?_;rintro x w30 ⟨rfl,hp30,hf⟩;have hb30:=hm.next hlt.out hp30 hf;obtain ⟨⟨y0,y1,y2,y3,y4⟩,f0,f1,f2,f3,f4⟩:=box5 hb30.bz;have HB30:=LH hb30;clear hf hp30 hb30 hm)
      | (go_at_call 91;refine (mark_no R e ts (i+1) p 0 0 58 _ HPs.out.pr hl H58.out).mono ?_;rintro x w5 ⟨rfl,hf⟩;have HB5:=LH (HPs.out.keep hf);clear hf))
     refine bodyPost_ret (results_cell_row (by rfl) _ _ w.heap.size 29 _ (0,0) _ (by rfl) (set5 HB30.out.bz) Tryz.underlying29 rfl (by kernel_rfl)) rfl ?_;exact HB30.out.zero hlt.out (by decide) _ hrun.symm
    rw [if_neg (by rw [h58];simp)] at hrun;have H58:=LH h58;clear h58;go_wp2_with (go_at_call 91;refine (mark_yes R e ts (i+1) p 0 0 58 _ HPs.out.pr hl H58.out).mono ?_;rintro x w5 ⟨rfl,hp5,hf⟩;have HB5:=LH (HPs.out.next hlt.out hp5 hf);have HZ5:=LH (HZs.out.frx hf (by omega));clear hf hp5)
    have z2:w5.cell? ⟨z,2,none⟩=some (.string ⟨s.toArray⟩):=HZ5.out.cell 2;have x4:w5.cell? ⟨w.heap.size+1,4,none⟩=some (.slice sa acc.length sc):=HB5.out.bx.cell 4;have HS0:Hid (w5.cell? ⟨z,2,none⟩=some (.string ⟨s.toArray⟩)):=z2;have HSd:Hid (w5.drew.cell? ⟨z,2,none⟩=some (.string ⟨s.toArray⟩)):=z2;rcases hv:Rd.rdV m e (Rd.next e (ts.drop (i+1+1))) (ts.drop (i+1+1+1)) (d+1) p with _ | ⟨ba,bc⟩ | ⟨u,l2,p2⟩
    ·rw [hv] at hrun;exact absurd hrun.symm HNE.out
    ·rw [hv] at hrun;simp only at hrun;have HVV:Hid (Rd.rdV m e (Rd.next e (ts.drop (i+1+1))) (ts.drop (i+1+1)).tail (d+1) p=.bad ba bc):=by show _=_;rw [List.tail_drop];exact hv
     clear hv;have HC:Hid (∀ W,(W=w5\/W=w5.drew)->Calls Tryz.prog 53 #[.pointer (some ⟨R,0,none⟩),.int .i64 ((d:Int)+1)] W λx w6=>∃ (u:JV) (k3 n3:Int) (s3:ByteArray) (A3:Option Addr) (a3 b3:Nat) (A3':Option Addr) (a3' b3':Nat) (i6 p6:Nat),x=.returned (.agg #[.int .i64 k3,.int .i64 n3,.string s3,.slice A3 a3 b3,.slice A3' a3' b3'])/\InV w6 (Be w5.heap.size w6.heap.size) u (.agg #[.int .i64 k3,.int .i64 n3,.string s3,.slice A3 a3 b3,.slice A3' a3' b3'])/\Prs w6 R e ts i6 p6 ba bc/\bc≠0/\FrX R w5 w6):=LH (λW hW=>by
      have hpW:Prs W R e ts (i+1+1) p 0 0:=by rcases hW with rfl | rfl;exact HB5.out.pr;exact HB5.out.pr.keep (FR _).drew
      have hsz:W.heap.size=w5.heap.size:=by rcases hW with rfl | rfl <;> rfl
      have hfW:FrX R w5 W:=by rcases hW with rfl | rfl;exact FrX.refl _ _;exact (FrX.refl _ _).drew
      refine (HVm.out.bad hpW hl hp8 hd17.out HTK.out hdd.out HVV.out).mono ?_;rw [<- hsz];rintro x w6 ⟨u,k3,n3,s3,A3,a3,b3,A3',a3',b3',rfl,hin,⟨i6,p6,hp6⟩,hbc,hf6⟩;exact ⟨u,k3,n3,s3,A3,a3,b3,A3',a3',b3',i6,p6,rfl,hin,hp6,hbc,hfW.trans hf6⟩)
     go_wp2_with fail
     refine wp_region_noPanic ?_;refine wp_region_held_drew (S:=(λW=>W.cell? ⟨z,2,none⟩=some (.string ⟨s.toArray⟩))) (by kernel_rfl) ?_ (λhHeld=>?_)
     ·exact HSd.out
     refine tq 0 rfl hHeld ?_;(try simp only [Act.put,fl]);refine tq 2 rfl hHeld ?_;(try simp only [Act.put,fl]);refine tq 3 rfl hHeld ?_;(try simp only [Act.put,fl]);refine tq 4 rfl hHeld ?_;(try simp only [Act.put,fl]);refine tq 5 rfl hHeld ?_;(try simp only [Act.put,fl]);refine tq 6 rfl hHeld ?_;(try simp only [Act.put,fl]);refine wpAnyH_ready (rs:=[1,7]) (by kernel_rfl) (by simp) ?_;refine AllReadyH.cons rfl (λK hK=>?_) ?_
     ·go_simp
      refine hK.out _ _ ?_ (λhH1=>?_)
      ·exact HSd.out
      clear hK K;(try simp only [Act.put,fl]);refine rq 7 rfl (λK hK=>?_);go_simp
      (go_simp;go_at_call 53;refine (HC.out _ (by first | with_reducible exact Or.inl rfl | with_reducible exact Or.inr rfl)).mono ?_;rintro x w6 ⟨u,k3,n3,s3,A3,a3,b3,A3',a3',b3',i6,p6,rfl,hin,hp6,hbc,hf6⟩;have hb6:=HB5.out.next hlt.out hp6 hf6;have hz6:=HZ5.out.frx hf6 m0;have HS5:Hid (w6.cell? ⟨z,2,none⟩=some (.string ⟨s.toArray⟩)):=hz6.cell 2;have z26:=HS5.out;have HS6:Hid (∀ ob,(w6.alloc ob).cell? ⟨z,2,none⟩=some (.string ⟨s.toArray⟩)):=(λob=>(hz6.keep ((FR _).alloc ob)).cell 2);have HU6:=LH (hin.more (In.newM HB5.out.ms (show w.heap.size+2<=w5.heap.size from HB5.out.bx.lt) (lR _)));have HL6:Hid (w.heap.size+2<=w6.heap.size):=hb6.bx.lt;have HB6:=LH hb6;have HZ6:=LH hz6;have x46:w6.cell? ⟨w.heap.size+1,4,none⟩=some (.slice sa acc.length sc):=hb6.bx.cell 4;have f46:w6.frozen? ⟨w.heap.size+1,4,none⟩=false:=hb6.bx.free 4;have x46a:∀ ob,(w6.alloc ob).cell? ⟨w.heap.size+1,4,none⟩=some (.slice sa acc.length sc):=(λob=>(hb6.bx.keep ((FR _).alloc ob)).cell 4);have z26a:=HS6.out;clear hp6 hf6 hb6 hin hz6)
      refine hK.out _ _ ?_ (λhH2=>?_)
      ·exact HS5.out
      clear hK K;(try simp only [Act.put,fl]);refine tq 8 rfl hH2 ?_;(try simp only [Act.put,fl]);refine rq 9 rfl (λK hK=>?_);go_simp
      refine hK.out _ _ ?_ (λhH3=>?_)
      ·exact HS6.out _
      clear hK K;(try simp only [Act.put,fl]);refine rq 10 rfl (λK hK=>?_);(refine step_ms (by rfl) (.tmp 55) (.tmp 63) (by rfl) (w.heap.size+2) (w.heap.size+2) HL6.out _ acc (by rfl) HB6.out.ms s hsl u #[.int .i64 k3,.int .i64 n3,.string s3,.slice A3 a3 b3,.slice A3' a3' b3'] (by rfl) five_agg HU6.out (by rfl) (by rfl) (by omega) ?_;intro v7 w7 hv7 hb7 hk7;obtain ⟨a7,c7,rfl⟩:=hv7.is_slice1;have hb8:=HB6.out.app hlt.out (by omega) hv7 hb7 hk7;have HB8:=LH hb8;have hy7:Blk w7 _ _ _:=(hk7 _ HB6.out.bx.lt (λe=>by have:=(HB6.out.ms.own_lt e).1;omega)).trans HB6.out.bx;have hz7:Blk w7 _ _ _:=(hk7 _ HZ6.out.lt (λe=>by have:=hzO.out _ e;omega)).trans HZ6.out;have x47:w7.cell? ⟨w.heap.size+1,4,none⟩=some (.slice sa acc.length sc):=hy7.cell 4;have f47:=hy7.free 4;have HS7:Hid (w7.cell? ⟨z,2,none⟩=some (.string ⟨s.toArray⟩)):=hz7.cell 2;have HS8:Hid ((w7.setCell ⟨w.heap.size+1,4,none⟩ (.slice a7 (acc.length+1) c7)).cell? ⟨z,2,none⟩=some (.string ⟨s.toArray⟩)):=(hz7.other (p:=⟨w.heap.size+1,4,none⟩) (by show w.heap.size+1≠z;omega) _).cell 2;clear hv7 hb7 hk7 hb8 hy7 hz7)
      refine hK.out _ _ ?_ (λhH4=>?_)
      ·exact HS7.out
      clear hK K;(try simp only [Act.put,fl]);refine tq 11 rfl hH4 ?_;(try simp only [Act.put,fl]);refine rq 12 rfl (λK hK=>?_);go_simp
      refine hK.out _ _ ?_ (λhH5=>?_)
      ·exact HS8.out
      clear hK K;(try simp only [Act.put,fl]);refine wpAnyH_done (by kernel_rfl) ?_ _;refine NoPanic.normal ?_;generalize (w7.setCell ⟨w.heap.size+1,4,none⟩ (.slice a7 (acc.length+1) c7))=W8 at HB8 ⊢;have q8:=HB8.out.pr.cells.1.2.2.2;obtain ⟨⟨x0,x1,x2,x3,x4⟩,g0,g1,g2,g3,g4⟩:=box5 HB8.out.bx;obtain ⟨⟨y0,y1,y2,y3,y4⟩,f0,f1,f2,f3,f4⟩:=box5 HB8.out.bz;have ec:(((bc:Nat):Int) != 0)=true:=by rw [bne_iff_ne];omega
      go_wp2_with fail
      refine bodyPost_ret (results_cell_row (by rfl) _ _ w.heap.size 29 _ (0,0) _ (by rfl) (set5 HB8.out.bz) Tryz.underlying29 rfl (by kernel_rfl)) rfl ?_;exact HB8.out.done hlt.out _ (.inl ⟨hrun.symm,hbc⟩)
     ·refine AllReadyH.cons rfl (λK hK=>?_) AllReadyH.nil;go_simp
      (go_simp;go_at_call 53;refine (HC.out _ (by first | with_reducible exact Or.inl rfl | with_reducible exact Or.inr rfl)).mono ?_;rintro x w6 ⟨u,k3,n3,s3,A3,a3,b3,A3',a3',b3',i6,p6,rfl,hin,hp6,hbc,hf6⟩;have hb6:=HB5.out.next hlt.out hp6 hf6;have hz6:=HZ5.out.frx hf6 m0;have HS5:Hid (w6.cell? ⟨z,2,none⟩=some (.string ⟨s.toArray⟩)):=hz6.cell 2;have z26:=HS5.out;have HS6:Hid (∀ ob,(w6.alloc ob).cell? ⟨z,2,none⟩=some (.string ⟨s.toArray⟩)):=(λob=>(hz6.keep ((FR _).alloc ob)).cell 2);have HU6:=LH (hin.more (In.newM HB5.out.ms (show w.heap.size+2<=w5.heap.size from HB5.out.bx.lt) (lR _)));have HL6:Hid (w.heap.size+2<=w6.heap.size):=hb6.bx.lt;have HB6:=LH hb6;have HZ6:=LH hz6;have x46:w6.cell? ⟨w.heap.size+1,4,none⟩=some (.slice sa acc.length sc):=hb6.bx.cell 4;have f46:w6.frozen? ⟨w.heap.size+1,4,none⟩=false:=hb6.bx.free 4;have x46a:∀ ob,(w6.alloc ob).cell? ⟨w.heap.size+1,4,none⟩=some (.slice sa acc.length sc):=(λob=>(hb6.bx.keep ((FR _).alloc ob)).cell 4);have z26a:=HS6.out;clear hp6 hf6 hb6 hin hz6)
      refine hK.out _ _ ?_ (λhH6=>?_)
      ·exact HS5.out
      clear hK K;(try simp only [Act.put,fl]);refine tq 8 rfl hH6 ?_;(try simp only [Act.put,fl]);refine wpAnyH_ready (rs:=[1,9]) (by kernel_rfl) (by simp) ?_;refine AllReadyH.cons rfl (λK hK=>?_) ?_
      ·go_simp
       refine hK.out _ _ ?_ (λhH7=>?_)
       ·exact HS5.out
       clear hK K;(try simp only [Act.put,fl]);refine rq 9 rfl (λK hK=>?_);go_simp
       refine hK.out _ _ ?_ (λhH8=>?_)
       ·exact HS6.out _
       clear hK K;(try simp only [Act.put,fl]);refine rq 10 rfl (λK hK=>?_);(refine step_ms (by rfl) (.tmp 55) (.tmp 63) (by rfl) (w.heap.size+2) (w.heap.size+2) HL6.out _ acc (by rfl) HB6.out.ms s hsl u #[.int .i64 k3,.int .i64 n3,.string s3,.slice A3 a3 b3,.slice A3' a3' b3'] (by rfl) five_agg HU6.out (by rfl) (by rfl) (by omega) ?_;intro v7 w7 hv7 hb7 hk7;obtain ⟨a7,c7,rfl⟩:=hv7.is_slice1;have hb8:=HB6.out.app hlt.out (by omega) hv7 hb7 hk7;have HB8:=LH hb8;have hy7:Blk w7 _ _ _:=(hk7 _ HB6.out.bx.lt (λe=>by have:=(HB6.out.ms.own_lt e).1;omega)).trans HB6.out.bx;have hz7:Blk w7 _ _ _:=(hk7 _ HZ6.out.lt (λe=>by have:=hzO.out _ e;omega)).trans HZ6.out;have x47:w7.cell? ⟨w.heap.size+1,4,none⟩=some (.slice sa acc.length sc):=hy7.cell 4;have f47:=hy7.free 4;have HS7:Hid (w7.cell? ⟨z,2,none⟩=some (.string ⟨s.toArray⟩)):=hz7.cell 2;have HS8:Hid ((w7.setCell ⟨w.heap.size+1,4,none⟩ (.slice a7 (acc.length+1) c7)).cell? ⟨z,2,none⟩=some (.string ⟨s.toArray⟩)):=(hz7.other (p:=⟨w.heap.size+1,4,none⟩) (by show w.heap.size+1≠z;omega) _).cell 2;clear hv7 hb7 hk7 hb8 hy7 hz7)
       refine hK.out _ _ ?_ (λhH9=>?_)
       ·exact HS7.out
       clear hK K;(try simp only [Act.put,fl]);refine tq 11 rfl hH9 ?_;(try simp only [Act.put,fl]);refine rq 12 rfl (λK hK=>?_);go_simp
       refine hK.out _ _ ?_ (λhH10=>?_)
       ·exact HS8.out
       clear hK K;(try simp only [Act.put,fl]);refine wpAnyH_done (by kernel_rfl) ?_ _;refine NoPanic.normal ?_;generalize (w7.setCell ⟨w.heap.size+1,4,none⟩ (.slice a7 (acc.length+1) c7))=W8 at HB8 ⊢;have q8:=HB8.out.pr.cells.1.2.2.2;obtain ⟨⟨x0,x1,x2,x3,x4⟩,g0,g1,g2,g3,g4⟩:=box5 HB8.out.bx;obtain ⟨⟨y0,y1,y2,y3,y4⟩,f0,f1,f2,f3,f4⟩:=box5 HB8.out.bz;have ec:(((bc:Nat):Int) != 0)=true:=by rw [bne_iff_ne];omega
       go_wp2_with fail
       refine bodyPost_ret (results_cell_row (by rfl) _ _ w.heap.size 29 _ (0,0) _ (by rfl) (set5 HB8.out.bz) Tryz.underlying29 rfl (by kernel_rfl)) rfl ?_;exact HB8.out.done hlt.out _ (.inl ⟨hrun.symm,hbc⟩)
      ·refine AllReadyH.cons rfl (λK hK=>?_) AllReadyH.nil;go_simp
       refine hK.out _ _ ?_ (λhH11=>?_)
       ·exact HS6.out _
       clear hK K;(try simp only [Act.put,fl]);refine rq 1 rfl (λK hK=>?_);go_simp
       refine hK.out _ _ ?_ (λhH12=>?_)
       ·exact HS6.out _
       clear hK K;(try simp only [Act.put,fl]);refine rq 10 rfl (λK hK=>?_);(refine step_ms (by rfl) (.tmp 55) (.tmp 63) (by rfl) (w.heap.size+2) (w.heap.size+2) HL6.out _ acc (by rfl) HB6.out.ms s hsl u #[.int .i64 k3,.int .i64 n3,.string s3,.slice A3 a3 b3,.slice A3' a3' b3'] (by rfl) five_agg HU6.out (by rfl) (by rfl) (by omega) ?_;intro v7 w7 hv7 hb7 hk7;obtain ⟨a7,c7,rfl⟩:=hv7.is_slice1;have hb8:=HB6.out.app hlt.out (by omega) hv7 hb7 hk7;have HB8:=LH hb8;have hy7:Blk w7 _ _ _:=(hk7 _ HB6.out.bx.lt (λe=>by have:=(HB6.out.ms.own_lt e).1;omega)).trans HB6.out.bx;have hz7:Blk w7 _ _ _:=(hk7 _ HZ6.out.lt (λe=>by have:=hzO.out _ e;omega)).trans HZ6.out;have x47:w7.cell? ⟨w.heap.size+1,4,none⟩=some (.slice sa acc.length sc):=hy7.cell 4;have f47:=hy7.free 4;have HS7:Hid (w7.cell? ⟨z,2,none⟩=some (.string ⟨s.toArray⟩)):=hz7.cell 2;have HS8:Hid ((w7.setCell ⟨w.heap.size+1,4,none⟩ (.slice a7 (acc.length+1) c7)).cell? ⟨z,2,none⟩=some (.string ⟨s.toArray⟩)):=(hz7.other (p:=⟨w.heap.size+1,4,none⟩) (by show w.heap.size+1≠z;omega) _).cell 2;clear hv7 hb7 hk7 hb8 hy7 hz7)
       refine hK.out _ _ ?_ (λhH13=>?_)
       ·exact HS7.out
       clear hK K;(try simp only [Act.put,fl]);refine tq 11 rfl hH13 ?_;(try simp only [Act.put,fl]);refine rq 12 rfl (λK hK=>?_);go_simp
       refine hK.out _ _ ?_ (λhH14=>?_)
       ·exact HS8.out
       clear hK K;(try simp only [Act.put,fl]);refine wpAnyH_done (by kernel_rfl) ?_ _;refine NoPanic.normal ?_;generalize (w7.setCell ⟨w.heap.size+1,4,none⟩ (.slice a7 (acc.length+1) c7))=W8 at HB8 ⊢;have q8:=HB8.out.pr.cells.1.2.2.2;obtain ⟨⟨x0,x1,x2,x3,x4⟩,g0,g1,g2,g3,g4⟩:=box5 HB8.out.bx;obtain ⟨⟨y0,y1,y2,y3,y4⟩,f0,f1,f2,f3,f4⟩:=box5 HB8.out.bz;have ec:(((bc:Nat):Int) != 0)=true:=by rw [bne_iff_ne];omega
       go_wp2_with fail
       refine bodyPost_ret (results_cell_row (by rfl) _ _ w.heap.size 29 _ (0,0) _ (by rfl) (set5 HB8.out.bz) Tryz.underlying29 rfl (by kernel_rfl)) rfl ?_;exact HB8.out.done hlt.out _ (.inl ⟨hrun.symm,hbc⟩)
    rw [hv] at hrun;simp only at hrun;have HVV:Hid (Rd.rdV m e (Rd.next e (ts.drop (i+1+1))) (ts.drop (i+1+1)).tail (d+1) p=.ok u l2 p2):=by show _=_;rw [List.tail_drop];exact hv
    have hs:=(Rd.rd_sorts m).1 _ _ _ _ _ _ _ _ hv;have hp2:p+1<=p2/\p2<=8192:=by
     have:=Rd.nv_pos u;omega
    clear hv hs;have HC:Hid (∀ W,(W=w5\/W=w5.drew)->Calls Tryz.prog 53 #[.pointer (some ⟨R,0,none⟩),.int .i64 ((d:Int)+1)] W λx w6=>∃ (k3 n3:Int) (s3:ByteArray) (A3:Option Addr) (a3 b3:Nat) (A3':Option Addr) (a3' b3':Nat) (i6:Nat),x=.returned (.agg #[.int .i64 k3,.int .i64 n3,.string s3,.slice A3 a3 b3,.slice A3' a3' b3'])/\InV w6 (Be w5.heap.size w6.heap.size) u (.agg #[.int .i64 k3,.int .i64 n3,.string s3,.slice A3 a3 b3,.slice A3' a3' b3'])/\Prs w6 R e ts i6 p2 0 0/\ts.drop i6=l2/\FrX R w5 w6):=LH (λW hW=>by
     have hpW:Prs W R e ts (i+1+1) p 0 0:=by rcases hW with rfl | rfl;exact HB5.out.pr;exact HB5.out.pr.keep (FR _).drew
     have hsz:W.heap.size=w5.heap.size:=by rcases hW with rfl | rfl <;> rfl
     have hfW:FrX R w5 W:=by rcases hW with rfl | rfl;exact FrX.refl _ _;exact (FrX.refl _ _).drew
     refine (HVm.out.ok hpW hl hp8 hd17.out HTK.out hdd.out HVV.out).mono ?_;rw [<- hsz];rintro x w6 ⟨k3,n3,s3,A3,a3,b3,A3',a3',b3',rfl,hin,⟨i6,hp6,hdr⟩,hf6⟩;exact ⟨k3,n3,s3,A3,a3,b3,A3',a3',b3',i6,rfl,hin,hp6,hdr,hfW.trans hf6⟩)
    go_wp2_with fail
    refine wp_region_noPanic ?_;refine wp_region_held_drew (S:=(λW=>W.cell? ⟨z,2,none⟩=some (.string ⟨s.toArray⟩))) (by kernel_rfl) ?_ (λhHeld=>?_)
    ·exact HSd.out
    refine tq 0 rfl hHeld ?_;(try simp only [Act.put,fl]);refine tq 2 rfl hHeld ?_;(try simp only [Act.put,fl]);refine tq 3 rfl hHeld ?_;(try simp only [Act.put,fl]);refine tq 4 rfl hHeld ?_;(try simp only [Act.put,fl]);refine tq 5 rfl hHeld ?_;(try simp only [Act.put,fl]);refine tq 6 rfl hHeld ?_;(try simp only [Act.put,fl]);refine wpAnyH_ready (rs:=[1,7]) (by kernel_rfl) (by simp) ?_;refine AllReadyH.cons rfl (λK hK=>?_) ?_
    ·go_simp
     refine hK.out _ _ ?_ (λhH1=>?_)
     ·exact HSd.out
     clear hK K;(try simp only [Act.put,fl]);refine rq 7 rfl (λK hK=>?_);go_simp
     (go_simp;go_at_call 53;refine (HC.out _ (by first | with_reducible exact Or.inl rfl | with_reducible exact Or.inr rfl)).mono ?_;rintro x w6 ⟨k3,n3,s3,A3,a3,b3,A3',a3',b3',i6,rfl,hin,hp6,hdr6,hf6⟩;have hb6:=HB5.out.next hlt.out hp6 hf6;have hz6:=HZ5.out.frx hf6 m0;have HS5:Hid (w6.cell? ⟨z,2,none⟩=some (.string ⟨s.toArray⟩)):=hz6.cell 2;have z26:=HS5.out;have HS6:Hid (∀ ob,(w6.alloc ob).cell? ⟨z,2,none⟩=some (.string ⟨s.toArray⟩)):=(λob=>(hz6.keep ((FR _).alloc ob)).cell 2);have HU6:=LH (hin.more (In.newM HB5.out.ms (show w.heap.size+2<=w5.heap.size from HB5.out.bx.lt) (lR _)));have HL6:Hid (w.heap.size+2<=w6.heap.size):=hb6.bx.lt;have HB6:=LH hb6;have HZ6:=LH hz6;have x46:w6.cell? ⟨w.heap.size+1,4,none⟩=some (.slice sa acc.length sc):=hb6.bx.cell 4;have f46:w6.frozen? ⟨w.heap.size+1,4,none⟩=false:=hb6.bx.free 4;have x46a:∀ ob,(w6.alloc ob).cell? ⟨w.heap.size+1,4,none⟩=some (.slice sa acc.length sc):=(λob=>(hb6.bx.keep ((FR _).alloc ob)).cell 4);have z26a:=HS6.out;clear hp6 hf6 hb6 hin hz6)
     refine hK.out _ _ ?_ (λhH2=>?_)
     ·exact HS5.out
     clear hK K;(try simp only [Act.put,fl]);refine tq 8 rfl hH2 ?_;(try simp only [Act.put,fl]);refine rq 9 rfl (λK hK=>?_);go_simp
     refine hK.out _ _ ?_ (λhH3=>?_)
     ·exact HS6.out _
     clear hK K;(try simp only [Act.put,fl]);refine rq 10 rfl (λK hK=>?_);(refine step_ms (by rfl) (.tmp 55) (.tmp 63) (by rfl) (w.heap.size+2) (w.heap.size+2) HL6.out _ acc (by rfl) HB6.out.ms s hsl u #[.int .i64 k3,.int .i64 n3,.string s3,.slice A3 a3 b3,.slice A3' a3' b3'] (by rfl) five_agg HU6.out (by rfl) (by rfl) (by omega) ?_;intro v7 w7 hv7 hb7 hk7;obtain ⟨a7,c7,rfl⟩:=hv7.is_slice1;have hb8:=HB6.out.app hlt.out (by omega) hv7 hb7 hk7;have HB8:=LH hb8;have hy7:Blk w7 _ _ _:=(hk7 _ HB6.out.bx.lt (λe=>by have:=(HB6.out.ms.own_lt e).1;omega)).trans HB6.out.bx;have hz7:Blk w7 _ _ _:=(hk7 _ HZ6.out.lt (λe=>by have:=hzO.out _ e;omega)).trans HZ6.out;have x47:w7.cell? ⟨w.heap.size+1,4,none⟩=some (.slice sa acc.length sc):=hy7.cell 4;have f47:=hy7.free 4;have HS7:Hid (w7.cell? ⟨z,2,none⟩=some (.string ⟨s.toArray⟩)):=hz7.cell 2;have HS8:Hid ((w7.setCell ⟨w.heap.size+1,4,none⟩ (.slice a7 (acc.length+1) c7)).cell? ⟨z,2,none⟩=some (.string ⟨s.toArray⟩)):=(hz7.other (p:=⟨w.heap.size+1,4,none⟩) (by show w.heap.size+1≠z;omega) _).cell 2;clear hv7 hb7 hk7 hb8 hy7 hz7)
     refine hK.out _ _ ?_ (λhH4=>?_)
     ·exact HS7.out
     clear hK K;(try simp only [Act.put,fl]);refine tq 11 rfl hH4 ?_;(try simp only [Act.put,fl]);refine rq 12 rfl (λK hK=>?_);go_simp
     refine hK.out _ _ ?_ (λhH5=>?_)
     ·exact HS8.out
     clear hK K;(try simp only [Act.put,fl]);refine wpAnyH_done (by kernel_rfl) ?_ _;refine NoPanic.normal ?_;subst hdr6;generalize (w7.setCell ⟨w.heap.size+1,4,none⟩ (.slice a7 (acc.length+1) c7))=W8 at HB8 ⊢;have q8:=HB8.out.pr.cells.1.2.2.2;by_cases h93:Rd.isM (Rd.next e (ts.drop i6)) 125=true
     ·rw [if_pos h93,List.tail_drop] at hrun;have H93:=LH h93;clear h93;go_wp2_with (go_at_call 91;refine (mark_yes R e ts i6 p2 0 0 125 _ HB8.out.pr hl H93.out).mono ?_;rintro x w9 ⟨rfl,hp9,hf⟩;have hb9:=HB8.out.next hlt.out hp9 hf;obtain ⟨⟨x0,x1,x2,x3,x4⟩,g0,g1,g2,g3,g4⟩:=box5 hb9.bx;obtain ⟨⟨y0,y1,y2,y3,y4⟩,f0,f1,f2,f3,f4⟩:=box5 hb9.bz;have HB9:=LH hb9;clear hf hp9 hb9)
      refine bodyPost_ret (results_cell_row (by rfl) _ _ w.heap.size 29 _ (0,0) _ (by rfl) (set5 HB9.out.bz) Tryz.underlying29 rfl (by kernel_rfl)) rfl ?_;exact HB9.out.done hlt.out _ (.inr ⟨hrun.symm,rfl,rfl⟩)
     have h93:Rd.isM (Rd.next e (ts.drop i6)) 125=false:=by simpa using h93
     rw [h93,if_neg (by simp)] at hrun;have H93:=LH h93;clear h93;have M93:Hid (Calls Tryz.prog 91 #[.pointer (some ⟨R,0,none⟩),.string ⟨[125].toArray⟩] W8 λx w'=>x=.returned (.bool false)/\Fr W8 w'):=mark_no R e ts i6 p2 0 0 125 _ HB8.out.pr hl H93.out;by_cases h44:Rd.isM (Rd.next e (ts.drop i6)) 44=true
     ·rw [if_pos h44,List.tail_drop] at hrun;have H44:=LH h44;have HRUN:=LH hrun;clear h44 hrun;go_wp2_with (first
       | (go_at_call 91;have hm:=HB9.out;refine (mark_yes R e ts i6 p2 0 0 44 _ hm.pr hl H44.out).mono ?_;rintro x w10 ⟨rfl,hp10,hf⟩;have HB10:=LH (hm.next hlt.out hp10 hf);clear hf hp10 hm)
       | (go_at_call 91;refine M93.out.mono ?_;rintro x w9 ⟨rfl,hf⟩;have HB9:=LH (HB8.out.keep hf);clear hf))
      go_roundg m
      case measure=>omega
      case rel=>exact ⟨i6+1,p2,0,0,_,acc++[(s,u)],by omega,hp2.2,HB10,.inl ⟨rfl,rfl,by simp;omega,HRUN⟩⟩
     ·have h44:Rd.isM (Rd.next e (ts.drop i6)) 44=false:=by simpa using h44
      rw [h44,if_neg (by simp)] at hrun;have H44:=LH h44;have HRUN:=LH hrun;clear h44 hrun;go_wp2_with (first
       | (go_at_call 54;have hm:=HB10.out;refine (fail_is R e ts i6 p2 50 _ hm.pr hl 50 rfl _ rfl).mono ?_;rintro x w11 ⟨rfl,hp11,hf⟩;have HB11:=LH (hm.next hlt.out hp11 hf);clear hf hp11 hm)
       | (go_at_call 91;have hm:=HB9.out;refine (mark_no R e ts i6 p2 0 0 44 _ hm.pr hl H44.out).mono ?_;rintro x w10 ⟨rfl,hf⟩;have HB10:=LH (hm.keep hf);clear hf hm)
       | (go_at_call 91;refine M93.out.mono ?_;rintro x w9 ⟨rfl,hf⟩;have HB9:=LH (HB8.out.keep hf);clear hf))
      go_roundg m
      case measure=>omega
      case rel=>exact ⟨i6,p2,_,50,_,acc++[(s,u)],by omega,hp2.2,HB11,.inr ⟨by decide,HRUN.out.symm⟩⟩
    ·refine AllReadyH.cons rfl (λK hK=>?_) AllReadyH.nil;go_simp
     (go_simp;go_at_call 53;refine (HC.out _ (by first | with_reducible exact Or.inl rfl | with_reducible exact Or.inr rfl)).mono ?_;rintro x w6 ⟨k3,n3,s3,A3,a3,b3,A3',a3',b3',i6,rfl,hin,hp6,hdr6,hf6⟩;have hb6:=HB5.out.next hlt.out hp6 hf6;have hz6:=HZ5.out.frx hf6 m0;have HS5:Hid (w6.cell? ⟨z,2,none⟩=some (.string ⟨s.toArray⟩)):=hz6.cell 2;have z26:=HS5.out;have HS6:Hid (∀ ob,(w6.alloc ob).cell? ⟨z,2,none⟩=some (.string ⟨s.toArray⟩)):=(λob=>(hz6.keep ((FR _).alloc ob)).cell 2);have HU6:=LH (hin.more (In.newM HB5.out.ms (show w.heap.size+2<=w5.heap.size from HB5.out.bx.lt) (lR _)));have HL6:Hid (w.heap.size+2<=w6.heap.size):=hb6.bx.lt;have HB6:=LH hb6;have HZ6:=LH hz6;have x46:w6.cell? ⟨w.heap.size+1,4,none⟩=some (.slice sa acc.length sc):=hb6.bx.cell 4;have f46:w6.frozen? ⟨w.heap.size+1,4,none⟩=false:=hb6.bx.free 4;have x46a:∀ ob,(w6.alloc ob).cell? ⟨w.heap.size+1,4,none⟩=some (.slice sa acc.length sc):=(λob=>(hb6.bx.keep ((FR _).alloc ob)).cell 4);have z26a:=HS6.out;clear hp6 hf6 hb6 hin hz6)
     refine hK.out _ _ ?_ (λhH6=>?_)
     ·exact HS5.out
     clear hK K;(try simp only [Act.put,fl]);refine tq 8 rfl hH6 ?_;(try simp only [Act.put,fl]);refine wpAnyH_ready (rs:=[1,9]) (by kernel_rfl) (by simp) ?_;refine AllReadyH.cons rfl (λK hK=>?_) ?_
     ·go_simp
      refine hK.out _ _ ?_ (λhH7=>?_)
      ·exact HS5.out
      clear hK K;(try simp only [Act.put,fl]);refine rq 9 rfl (λK hK=>?_);go_simp
      refine hK.out _ _ ?_ (λhH8=>?_)
      ·exact HS6.out _
      clear hK K;(try simp only [Act.put,fl]);refine rq 10 rfl (λK hK=>?_);(refine step_ms (by rfl) (.tmp 55) (.tmp 63) (by rfl) (w.heap.size+2) (w.heap.size+2) HL6.out _ acc (by rfl) HB6.out.ms s hsl u #[.int .i64 k3,.int .i64 n3,.string s3,.slice A3 a3 b3,.slice A3' a3' b3'] (by rfl) five_agg HU6.out (by rfl) (by rfl) (by omega) ?_;intro v7 w7 hv7 hb7 hk7;obtain ⟨a7,c7,rfl⟩:=hv7.is_slice1;have hb8:=HB6.out.app hlt.out (by omega) hv7 hb7 hk7;have HB8:=LH hb8;have hy7:Blk w7 _ _ _:=(hk7 _ HB6.out.bx.lt (λe=>by have:=(HB6.out.ms.own_lt e).1;omega)).trans HB6.out.bx;have hz7:Blk w7 _ _ _:=(hk7 _ HZ6.out.lt (λe=>by have:=hzO.out _ e;omega)).trans HZ6.out;have x47:w7.cell? ⟨w.heap.size+1,4,none⟩=some (.slice sa acc.length sc):=hy7.cell 4;have f47:=hy7.free 4;have HS7:Hid (w7.cell? ⟨z,2,none⟩=some (.string ⟨s.toArray⟩)):=hz7.cell 2;have HS8:Hid ((w7.setCell ⟨w.heap.size+1,4,none⟩ (.slice a7 (acc.length+1) c7)).cell? ⟨z,2,none⟩=some (.string ⟨s.toArray⟩)):=(hz7.other (p:=⟨w.heap.size+1,4,none⟩) (by show w.heap.size+1≠z;omega) _).cell 2;clear hv7 hb7 hk7 hb8 hy7 hz7)
      refine hK.out _ _ ?_ (λhH9=>?_)
      ·exact HS7.out
      clear hK K;(try simp only [Act.put,fl]);refine tq 11 rfl hH9 ?_;(try simp only [Act.put,fl]);refine rq 12 rfl (λK hK=>?_);go_simp
      refine hK.out _ _ ?_ (λhH10=>?_)
      ·exact HS8.out
      clear hK K;(try simp only [Act.put,fl]);refine wpAnyH_done (by kernel_rfl) ?_ _;refine NoPanic.normal ?_;subst hdr6;generalize (w7.setCell ⟨w.heap.size+1,4,none⟩ (.slice a7 (acc.length+1) c7))=W8 at HB8 ⊢;have q8:=HB8.out.pr.cells.1.2.2.2;by_cases h93:Rd.isM (Rd.next e (ts.drop i6)) 125=true
      ·rw [if_pos h93,List.tail_drop] at hrun;have H93:=LH h93;clear h93;go_wp2_with (go_at_call 91;refine (mark_yes R e ts i6 p2 0 0 125 _ HB8.out.pr hl H93.out).mono ?_;rintro x w9 ⟨rfl,hp9,hf⟩;have hb9:=HB8.out.next hlt.out hp9 hf;obtain ⟨⟨x0,x1,x2,x3,x4⟩,g0,g1,g2,g3,g4⟩:=box5 hb9.bx;obtain ⟨⟨y0,y1,y2,y3,y4⟩,f0,f1,f2,f3,f4⟩:=box5 hb9.bz;have HB9:=LH hb9;clear hf hp9 hb9)
       refine bodyPost_ret (results_cell_row (by rfl) _ _ w.heap.size 29 _ (0,0) _ (by rfl) (set5 HB9.out.bz) Tryz.underlying29 rfl (by kernel_rfl)) rfl ?_;exact HB9.out.done hlt.out _ (.inr ⟨hrun.symm,rfl,rfl⟩)
      have h93:Rd.isM (Rd.next e (ts.drop i6)) 125=false:=by simpa using h93
      rw [h93,if_neg (by simp)] at hrun;have H93:=LH h93;clear h93;have M93:Hid (Calls Tryz.prog 91 #[.pointer (some ⟨R,0,none⟩),.string ⟨[125].toArray⟩] W8 λx w'=>x=.returned (.bool false)/\Fr W8 w'):=mark_no R e ts i6 p2 0 0 125 _ HB8.out.pr hl H93.out;by_cases h44:Rd.isM (Rd.next e (ts.drop i6)) 44=true
      ·rw [if_pos h44,List.tail_drop] at hrun;have H44:=LH h44;have HRUN:=LH hrun;clear h44 hrun;go_wp2_with (first
        | (go_at_call 91;have hm:=HB9.out;refine (mark_yes R e ts i6 p2 0 0 44 _ hm.pr hl H44.out).mono ?_;rintro x w10 ⟨rfl,hp10,hf⟩;have HB10:=LH (hm.next hlt.out hp10 hf);clear hf hp10 hm)
        | (go_at_call 91;refine M93.out.mono ?_;rintro x w9 ⟨rfl,hf⟩;have HB9:=LH (HB8.out.keep hf);clear hf))
       go_roundg m
       case measure=>omega
       case rel=>exact ⟨i6+1,p2,0,0,_,acc++[(s,u)],by omega,hp2.2,HB10,.inl ⟨rfl,rfl,by simp;omega,HRUN⟩⟩
      ·have h44:Rd.isM (Rd.next e (ts.drop i6)) 44=false:=by simpa using h44
       rw [h44,if_neg (by simp)] at hrun;have H44:=LH h44;have HRUN:=LH hrun;clear h44 hrun;go_wp2_with (first
        | (go_at_call 54;have hm:=HB10.out;refine (fail_is R e ts i6 p2 50 _ hm.pr hl 50 rfl _ rfl).mono ?_;rintro x w11 ⟨rfl,hp11,hf⟩;have HB11:=LH (hm.next hlt.out hp11 hf);clear hf hp11 hm)
        | (go_at_call 91;have hm:=HB9.out;refine (mark_no R e ts i6 p2 0 0 44 _ hm.pr hl H44.out).mono ?_;rintro x w10 ⟨rfl,hf⟩;have HB10:=LH (hm.keep hf);clear hf hm)
        | (go_at_call 91;refine M93.out.mono ?_;rintro x w9 ⟨rfl,hf⟩;have HB9:=LH (HB8.out.keep hf);clear hf))
       go_roundg m
       case measure=>omega
       case rel=>exact ⟨i6,p2,_,50,_,acc++[(s,u)],by omega,hp2.2,HB11,.inr ⟨by decide,HRUN.out.symm⟩⟩
     ·refine AllReadyH.cons rfl (λK hK=>?_) AllReadyH.nil;go_simp
      refine hK.out _ _ ?_ (λhH11=>?_)
      ·exact HS6.out _
      clear hK K;(try simp only [Act.put,fl]);refine rq 1 rfl (λK hK=>?_);go_simp
      refine hK.out _ _ ?_ (λhH12=>?_)
      ·exact HS6.out _
      clear hK K;(try simp only [Act.put,fl]);refine rq 10 rfl (λK hK=>?_);(refine step_ms (by rfl) (.tmp 55) (.tmp 63) (by rfl) (w.heap.size+2) (w.heap.size+2) HL6.out _ acc (by rfl) HB6.out.ms s hsl u #[.int .i64 k3,.int .i64 n3,.string s3,.slice A3 a3 b3,.slice A3' a3' b3'] (by rfl) five_agg HU6.out (by rfl) (by rfl) (by omega) ?_;intro v7 w7 hv7 hb7 hk7;obtain ⟨a7,c7,rfl⟩:=hv7.is_slice1;have hb8:=HB6.out.app hlt.out (by omega) hv7 hb7 hk7;have HB8:=LH hb8;have hy7:Blk w7 _ _ _:=(hk7 _ HB6.out.bx.lt (λe=>by have:=(HB6.out.ms.own_lt e).1;omega)).trans HB6.out.bx;have hz7:Blk w7 _ _ _:=(hk7 _ HZ6.out.lt (λe=>by have:=hzO.out _ e;omega)).trans HZ6.out;have x47:w7.cell? ⟨w.heap.size+1,4,none⟩=some (.slice sa acc.length sc):=hy7.cell 4;have f47:=hy7.free 4;have HS7:Hid (w7.cell? ⟨z,2,none⟩=some (.string ⟨s.toArray⟩)):=hz7.cell 2;have HS8:Hid ((w7.setCell ⟨w.heap.size+1,4,none⟩ (.slice a7 (acc.length+1) c7)).cell? ⟨z,2,none⟩=some (.string ⟨s.toArray⟩)):=(hz7.other (p:=⟨w.heap.size+1,4,none⟩) (by show w.heap.size+1≠z;omega) _).cell 2;clear hv7 hb7 hk7 hb8 hy7 hz7)
      refine hK.out _ _ ?_ (λhH13=>?_)
      ·exact HS7.out
      clear hK K;(try simp only [Act.put,fl]);refine tq 11 rfl hH13 ?_;(try simp only [Act.put,fl]);refine rq 12 rfl (λK hK=>?_);go_simp
      refine hK.out _ _ ?_ (λhH14=>?_)
      ·exact HS8.out
      clear hK K;(try simp only [Act.put,fl]);refine wpAnyH_done (by kernel_rfl) ?_ _;refine NoPanic.normal ?_;subst hdr6;generalize (w7.setCell ⟨w.heap.size+1,4,none⟩ (.slice a7 (acc.length+1) c7))=W8 at HB8 ⊢;have q8:=HB8.out.pr.cells.1.2.2.2;by_cases h93:Rd.isM (Rd.next e (ts.drop i6)) 125=true
      ·rw [if_pos h93,List.tail_drop] at hrun;have H93:=LH h93;clear h93;go_wp2_with (go_at_call 91;refine (mark_yes R e ts i6 p2 0 0 125 _ HB8.out.pr hl H93.out).mono ?_;rintro x w9 ⟨rfl,hp9,hf⟩;have hb9:=HB8.out.next hlt.out hp9 hf;obtain ⟨⟨x0,x1,x2,x3,x4⟩,g0,g1,g2,g3,g4⟩:=box5 hb9.bx;obtain ⟨⟨y0,y1,y2,y3,y4⟩,f0,f1,f2,f3,f4⟩:=box5 hb9.bz;have HB9:=LH hb9;clear hf hp9 hb9)
       refine bodyPost_ret (results_cell_row (by rfl) _ _ w.heap.size 29 _ (0,0) _ (by rfl) (set5 HB9.out.bz) Tryz.underlying29 rfl (by kernel_rfl)) rfl ?_;exact HB9.out.done hlt.out _ (.inr ⟨hrun.symm,rfl,rfl⟩)
      have h93:Rd.isM (Rd.next e (ts.drop i6)) 125=false:=by simpa using h93
      rw [h93,if_neg (by simp)] at hrun;have H93:=LH h93;clear h93;have M93:Hid (Calls Tryz.prog 91 #[.pointer (some ⟨R,0,none⟩),.string ⟨[125].toArray⟩] W8 λx w'=>x=.returned (.bool false)/\Fr W8 w'):=mark_no R e ts i6 p2 0 0 125 _ HB8.out.pr hl H93.out;by_cases h44:Rd.isM (Rd.next e (ts.drop i6)) 44=true
      ·rw [if_pos h44,List.tail_drop] at hrun;have H44:=LH h44;have HRUN:=LH hrun;clear h44 hrun;go_wp2_with (first
        | (go_at_call 91;have hm:=HB9.out;refine (mark_yes R e ts i6 p2 0 0 44 _ hm.pr hl H44.out).mono ?_;rintro x w10 ⟨rfl,hp10,hf⟩;have HB10:=LH (hm.next hlt.out hp10 hf);clear hf hp10 hm)
        | (go_at_call 91;refine M93.out.mono ?_;rintro x w9 ⟨rfl,hf⟩;have HB9:=LH (HB8.out.keep hf);clear hf))
       go_roundg m
       case measure=>omega
       case rel=>exact ⟨i6+1,p2,0,0,_,acc++[(s,u)],by omega,hp2.2,HB10,.inl ⟨rfl,rfl,by simp;omega,HRUN⟩⟩
      ·have h44:Rd.isM (Rd.next e (ts.drop i6)) 44=false:=by simpa using h44
       rw [h44,if_neg (by simp)] at hrun;have H44:=LH h44;have HRUN:=LH hrun;clear h44 hrun;go_wp2_with (first
        | (go_at_call 54;have hm:=HB10.out;refine (fail_is R e ts i6 p2 50 _ hm.pr hl 50 rfl _ rfl).mono ?_;rintro x w11 ⟨rfl,hp11,hf⟩;have HB11:=LH (hm.next hlt.out hp11 hf);clear hf hp11 hm)
        | (go_at_call 91;have hm:=HB9.out;refine (mark_no R e ts i6 p2 0 0 44 _ hm.pr hl H44.out).mono ?_;rintro x w10 ⟨rfl,hf⟩;have HB10:=LH (hm.keep hf);clear hf hm)
        | (go_at_call 91;refine M93.out.mono ?_;rintro x w9 ⟨rfl,hf⟩;have HB9:=LH (HB8.out.keep hf);clear hf))
       go_roundg m
       case measure=>omega
       case rel=>exact ⟨i6,p2,_,50,_,acc++[(s,u)],by omega,hp2.2,HB11,.inr ⟨by decide,HRUN.out.symm⟩⟩
end Go.Proofs.YtockgemmkjdnkaaGreatDoor
