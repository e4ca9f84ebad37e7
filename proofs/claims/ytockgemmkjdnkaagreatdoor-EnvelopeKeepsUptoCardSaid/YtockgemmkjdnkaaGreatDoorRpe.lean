/- The walk of the document's reader: value, the whole of it. -/
import Derived.Test.YtockgemmkjdnkaaGreatDoorReadPd
import Derived.Test.YtockgemmkjdnkaaGreatDoorRdd
import Derived.Test.YtockgemmkjdnkaaGreatDoorRl
set_option maxRecDepth 100000
set_option maxHeartbeats 2000000
set_option linter.unusedVariables false
set_option linter.unusedSimpArgs false
namespace Go.Proofs.YtockgemmkjdnkaaGreatDoor
open Go.RowKit

theorem PVP.form {R e:Nat} {ts:List Scn.Tok} {w w':World} {r:Rd.R} {x:Ending} (h:PVP R e ts w r x w'):∃ (k n:Int) (s:ByteArray) (A:Option Addr) (a1 b:Nat) (A':Option Addr) (a' b':Nat),x=.returned (.agg #[.int .i64 k,.int .i64 n,.string s,.slice A a1 b,.slice A' a' b']):=by
 cases r with
 | out=>exact h.elim
 | bad a c=>obtain ⟨u,k,n,s,A,a1,b,A',a',b',hx,_⟩:=h;exact ⟨k,n,s,A,a1,b,A',a',b',hx⟩
 | ok v l p=>obtain ⟨k,n,s,A,a1,b,A',a',b',hx,_⟩:=h;exact ⟨k,n,s,A,a1,b,A',a',b',hx⟩
theorem PVP.fr {R e:Nat} {ts:List Scn.Tok} {w w':World} {r:Rd.R} {x:Ending} (h:PVP R e ts w r x w'):FrX R w w':=by
 cases r with
 | out=>exact h.elim
 | bad a c=>obtain ⟨u,k,n,s,A,a1,b,A',a',b',_,_,_,_,hf⟩:=h;exact hf
 | ok v l p=>obtain ⟨k,n,s,A,a1,b,A',a',b',_,_,_,hf⟩:=h;exact hf
theorem PVP.lift {R e:Nat} {ts:List Scn.Tok} {w W0 w':World} {r:Rd.R} {x:Ending} (h:PVP R e ts W0 r x w') (hR:R<w.heap.size) (hW:w.heap.size<W0.heap.size) (hF:FrX R w W0) (u0 u1 u2 u3 u4:Value):
  PVP R e ts w r x (((((w'.setCell ⟨w.heap.size,0,none⟩ u0).setCell ⟨w.heap.size,1,none⟩ u1).setCell ⟨w.heap.size,2,none⟩ u2).setCell ⟨w.heap.size,3,none⟩ u3).setCell ⟨w.heap.size,4,none⟩ u4):=by
 cases r with
 | out=>exact h.elim
 | bad a c=>
  obtain ⟨u,k,n,s,A,a1,b,A',a',b',hx,hin,⟨i,p,hp⟩,hc,hf⟩:=h;exact ⟨u,k,n,s,A,a1,b,A',a',b',hx,by rw [size5];exact (hin.far5 hW _ _ _ _ _).more (λb hb=>⟨by have:=hb.1;omega,hb.2⟩),⟨i,p,hp.set5 hR _ _ _ _ _⟩,hc,(hF.trans hf).new5 (lR _) _ _ _ _ _⟩
 | ok v l p=>
  obtain ⟨k,n,s,A,a1,b,A',a',b',hx,hin,⟨i,hp,hd⟩,hf⟩:=h;exact ⟨k,n,s,A,a1,b,A',a',b',hx,by rw [size5];exact (hin.far5 hW _ _ _ _ _).more (λb hb=>⟨by have:=hb.1;omega,hb.2⟩),⟨i,hp.set5 hR _ _ _ _ _,hd⟩,(hF.trans hf).new5 (lR _) _ _ _ _ _⟩

theorem pval_list (f:Nat) (hV:∀ g,g<f->PVAt g) (R e:Nat) (ts:List Scn.Tok) (i:Nat) (n:Int) (a d p:Nat) (w:World) (h:Prs w R e ts i p 0 0) (hl:ts.length<=140737488355328) (hp:p<=8192) (ht:Rd.next e (ts.drop i)=⟨1,n,[91],a⟩) (hk:∀ x∈ts,TokG x) (hd:¬ 16<d) (h8:¬ 8192<=p) (hne:Rd.rdV (f+1) e ⟨1,n,[91],a⟩ (ts.drop i).tail d p≠.out):
  Calls Tryz.prog 53 #[.pointer (some ⟨R,0,none⟩),.int .i64 (d:Nat)] w (PVP R e ts w (Rd.rdV (f+1) e ⟨1,n,[91],a⟩ (ts.drop i).tail d p)):=by
 have e0:Rd.rdV (f+1) e ⟨1,n,[91],a⟩ (ts.drop i).tail d p=if Rd.isM (Rd.next e (ts.drop (i+1))) 93 then .ok (JV.listV []) (ts.drop (i+1)).tail (p+1) else Rd.rdL f e (ts.drop (i+1)) d (p+1) []:=by
  rw [Rd.rdV_succ,if_neg (by simp [Rd.isM]),if_neg hd,if_neg h8,List.tail_drop];rfl
 rw [e0] at hne ⊢;clear e0;obtain ⟨r,hr⟩:∃ r,(if Rd.isM (Rd.next e (ts.drop (i+1))) 93 then Rd.R.ok (JV.listV []) (ts.drop (i+1)).tail (p+1) else Rd.rdL f e (ts.drop (i+1)) d (p+1) [])=r:=⟨_,rfl⟩;rw [hr] at hne ⊢;have HC:Hid (∀ W0,Prs W0 R e ts (i+1) (p+1) 0 0->Calls Tryz.prog 74 #[.pointer (some ⟨R,0,none⟩),.int .i64 (d:Nat)] W0 (PVP R e ts W0 r)):=LH (λW0 hW=>plist_is f hV R e ts (i+1) d (p+1) W0 hW hl (by omega) (by omega) hk r hr hne);have d1:decide ((16:Int)<(d:Int))=false:=dF (by omega);have d2:decide (16<d)=false:=dF (by omega);have d3:((p:Int) == 8192)=false:=by rw [beq_eq_false_iff_ne];omega
 have hp2:(p:Int)<=8191:=by omega
 have hil:i<ts.length:=by
  rcases Nat.lt_or_ge i ts.length with h9 | h9
  ·exact h9
  ·rw [List.drop_eq_nil_of_le h9] at ht;simp [Rd.next] at ht
 have hi2:(i:Int)<=140737488355328:=by omega
 clear hr hne hV hk;have HP:=LH h;have HT:=LH ht;have hR:=h.lt;have hn:¬ R=w.heap.size:=by omega
 have hXR:¬ w.heap.size=R:=by omega
 clear h ht;go_enter Tryz.func53,Tryz.ntmps53
 go_wp2_with (first
  | (go_at_call 74;have hm:=HP1.out;have hpW:=((hm.keep ((FR _).alloc (.cells #[.int .i64 1,.int .i64 n,.string ⟨#[91]⟩,.int .i64 (a:Nat)] 81))).setP (z:=(p:Int)+1) (j:=p+1) (by omega)).setI (z:=(i:Int)+1) (j:=i+1) (by omega) (by omega);refine (HC.out _ hpW).mono ?_;intro x w5 h5;obtain ⟨k3,n3,s3,A3,a3,b3,A3',a3',b3',rfl⟩:=h5.form;have hb5:=(((HB1.out.keep ((FR _).alloc (.cells #[.int .i64 1,.int .i64 n,.string ⟨#[91]⟩,.int .i64 (a:Nat)] 81))).other (p:=⟨R,3,none⟩) (by show R≠w.heap.size;omega) (.int .i64 ((p:Int)+1))).other (p:=⟨R,2,none⟩) (by show R≠w.heap.size;omega) (.int .i64 ((i:Int)+1))).frx h5.fr hXR;obtain ⟨⟨a0,a1,a2,a3x,a4⟩,g0,g1,g2,g3,g4⟩:=box5 hb5;have HB5:=LH hb5;have H5:=LH h5;clear hm hpW hb5 h5)
  | (go_at_call 73;refine (token_at R e ts i p 0 0 ⟨1,n,[91],a⟩ HT.out _ (HP.out.keep ((FR w).alloc _)) hl).mono ?_;rintro x w1 ⟨rfl,hf⟩;have hp1:=(HP.out.keep ((FR w).alloc _)).keep hf;have c2:∀ ob,(w1.alloc ob).cell? ⟨R,2,none⟩=some (.int .i64 (i:Nat)):=(λob=>(hp1.keep ((FR _).alloc ob)).cells.1.1);have c3:∀ ob,(w1.alloc ob).cell? ⟨R,3,none⟩=some (.int .i64 (p:Nat)):=(λob=>(hp1.keep ((FR _).alloc ob)).cells.1.2.1);have fz:∀ ob j,(w1.alloc ob).frozen? ⟨R,j,none⟩=false:=(λob j=>(hp1.keep ((FR _).alloc ob)).cells.2 j);have hb1:=(Blk.made w #[.int .i64 0,.int .i64 0,.string ⟨#[]⟩,.slice none 0 0,.slice none 0 0] 29).keep hf;have hlt1:w.heap.size<w1.heap.size:=hb1.lt;have y0:∀ ob,(w1.alloc ob).cell? ⟨w.heap.size,0,none⟩=some (.int .i64 0):=(λob=>(hb1.keep ((FR _).alloc ob)).cell 0);have y1:∀ ob,(w1.alloc ob).cell? ⟨w.heap.size,1,none⟩=some (.int .i64 0):=(λob=>(hb1.keep ((FR _).alloc ob)).cell 1);have y2:∀ ob,(w1.alloc ob).cell? ⟨w.heap.size,2,none⟩=some (.string ⟨#[]⟩):=(λob=>(hb1.keep ((FR _).alloc ob)).cell 2);have y3:∀ ob,(w1.alloc ob).cell? ⟨w.heap.size,3,none⟩=some (.slice none 0 0):=(λob=>(hb1.keep ((FR _).alloc ob)).cell 3);have y4:∀ ob,(w1.alloc ob).cell? ⟨w.heap.size,4,none⟩=some (.slice none 0 0):=(λob=>(hb1.keep ((FR _).alloc ob)).cell 4);have yz:∀ ob j,(w1.alloc ob).frozen? ⟨w.heap.size,j,none⟩=false:=(λob j=>(hb1.keep ((FR _).alloc ob)).free j);have HP1:=LH hp1;have HB1:=LH hb1;have HF1:=LH (((FR w).alloc (.cells #[.int .i64 0,.int .i64 0,.string ⟨#[]⟩,.slice none 0 0,.slice none 0 0] 29)).trans hf);clear hf hp1 hb1))
 refine bodyPost_ret (results_cell_row (by rfl) _ _ w.heap.size 29 _ (0,0) _ (by rfl) (set5 HB5.out) Tryz.underlying29 rfl (by kernel_rfl)) rfl ?_;refine H5.out.lift hR ?_ ((((FrX.of (C:=R) HF1.out).alloc _).setCell (p:=⟨R,3,none⟩) rfl _).setCell (p:=⟨R,2,none⟩) rfl _) _ _ _ _ _;simp [World.setCell];omega

theorem pval_map (f:Nat) (hV:∀ g,g<f->PVAt g) (R e:Nat) (ts:List Scn.Tok) (i:Nat) (n:Int) (a d p:Nat) (w:World) (h:Prs w R e ts i p 0 0) (hl:ts.length<=140737488355328) (hp:p<=8192) (ht:Rd.next e (ts.drop i)=⟨1,n,[123],a⟩) (hk:∀ x∈ts,TokG x) (hd:¬ 16<d) (h8:¬ 8192<=p) (hne:Rd.rdV (f+1) e ⟨1,n,[123],a⟩ (ts.drop i).tail d p≠.out):
  Calls Tryz.prog 53 #[.pointer (some ⟨R,0,none⟩),.int .i64 (d:Nat)] w (PVP R e ts w (Rd.rdV (f+1) e ⟨1,n,[123],a⟩ (ts.drop i).tail d p)):=by
 have e0:Rd.rdV (f+1) e ⟨1,n,[123],a⟩ (ts.drop i).tail d p=if Rd.isM (Rd.next e (ts.drop (i+1))) 125 then .ok (JV.mapV []) (ts.drop (i+1)).tail (p+1) else Rd.rdM f e (ts.drop (i+1)) d (p+1) []:=by
  rw [Rd.rdV_succ,if_neg (by simp [Rd.isM]),if_neg hd,if_neg h8,List.tail_drop];rfl
 rw [e0] at hne ⊢;clear e0;obtain ⟨r,hr⟩:∃ r,(if Rd.isM (Rd.next e (ts.drop (i+1))) 125 then Rd.R.ok (JV.mapV []) (ts.drop (i+1)).tail (p+1) else Rd.rdM f e (ts.drop (i+1)) d (p+1) [])=r:=⟨_,rfl⟩;rw [hr] at hne ⊢;have HC:Hid (∀ W0,Prs W0 R e ts (i+1) (p+1) 0 0->Calls Tryz.prog 75 #[.pointer (some ⟨R,0,none⟩),.int .i64 (d:Nat)] W0 (PVP R e ts W0 r)):=LH (λW0 hW=>pmembers_is f hV R e ts (i+1) d (p+1) W0 hW hl (by omega) (by omega) hk r hr hne);have d1:decide ((16:Int)<(d:Int))=false:=dF (by omega);have d2:decide (16<d)=false:=dF (by omega);have d3:((p:Int) == 8192)=false:=by rw [beq_eq_false_iff_ne];omega
 have hp2:(p:Int)<=8191:=by omega
 have hil:i<ts.length:=by
  rcases Nat.lt_or_ge i ts.length with h9 | h9
  ·exact h9
  ·rw [List.drop_eq_nil_of_le h9] at ht;simp [Rd.next] at ht
 have hi2:(i:Int)<=140737488355328:=by omega
 clear hr hne hV hk;have HP:=LH h;have HT:=LH ht;have hR:=h.lt;have hn:¬ R=w.heap.size:=by omega
 have hXR:¬ w.heap.size=R:=by omega
 clear h ht;go_enter Tryz.func53,Tryz.ntmps53
 go_wp2_with (first
  | (go_at_call 75;have hm:=HP1.out;have hpW:=((hm.keep ((FR _).alloc (.cells #[.int .i64 1,.int .i64 n,.string ⟨#[123]⟩,.int .i64 (a:Nat)] 81))).setP (z:=(p:Int)+1) (j:=p+1) (by omega)).setI (z:=(i:Int)+1) (j:=i+1) (by omega) (by omega);refine (HC.out _ hpW).mono ?_;intro x w5 h5;obtain ⟨k3,n3,s3,A3,a3,b3,A3',a3',b3',rfl⟩:=h5.form;have hb5:=(((HB1.out.keep ((FR _).alloc (.cells #[.int .i64 1,.int .i64 n,.string ⟨#[123]⟩,.int .i64 (a:Nat)] 81))).other (p:=⟨R,3,none⟩) (by show R≠w.heap.size;omega) (.int .i64 ((p:Int)+1))).other (p:=⟨R,2,none⟩) (by show R≠w.heap.size;omega) (.int .i64 ((i:Int)+1))).frx h5.fr hXR;obtain ⟨⟨a0,a1,a2,a3x,a4⟩,g0,g1,g2,g3,g4⟩:=box5 hb5;have HB5:=LH hb5;have H5:=LH h5;clear hm hpW hb5 h5)
  | (go_at_call 73;refine (token_at R e ts i p 0 0 ⟨1,n,[123],a⟩ HT.out _ (HP.out.keep ((FR w).alloc _)) hl).mono ?_;rintro x w1 ⟨rfl,hf⟩;have hp1:=(HP.out.keep ((FR w).alloc _)).keep hf;have c2:∀ ob,(w1.alloc ob).cell? ⟨R,2,none⟩=some (.int .i64 (i:Nat)):=(λob=>(hp1.keep ((FR _).alloc ob)).cells.1.1);have c3:∀ ob,(w1.alloc ob).cell? ⟨R,3,none⟩=some (.int .i64 (p:Nat)):=(λob=>(hp1.keep ((FR _).alloc ob)).cells.1.2.1);have fz:∀ ob j,(w1.alloc ob).frozen? ⟨R,j,none⟩=false:=(λob j=>(hp1.keep ((FR _).alloc ob)).cells.2 j);have hb1:=(Blk.made w #[.int .i64 0,.int .i64 0,.string ⟨#[]⟩,.slice none 0 0,.slice none 0 0] 29).keep hf;have hlt1:w.heap.size<w1.heap.size:=hb1.lt;have y0:∀ ob,(w1.alloc ob).cell? ⟨w.heap.size,0,none⟩=some (.int .i64 0):=(λob=>(hb1.keep ((FR _).alloc ob)).cell 0);have y1:∀ ob,(w1.alloc ob).cell? ⟨w.heap.size,1,none⟩=some (.int .i64 0):=(λob=>(hb1.keep ((FR _).alloc ob)).cell 1);have y2:∀ ob,(w1.alloc ob).cell? ⟨w.heap.size,2,none⟩=some (.string ⟨#[]⟩):=(λob=>(hb1.keep ((FR _).alloc ob)).cell 2);have y3:∀ ob,(w1.alloc ob).cell? ⟨w.heap.size,3,none⟩=some (.slice none 0 0):=(λob=>(hb1.keep ((FR _).alloc ob)).cell 3);have y4:∀ ob,(w1.alloc ob).cell? ⟨w.heap.size,4,none⟩=some (.slice none 0 0):=(λob=>(hb1.keep ((FR _).alloc ob)).cell 4);have yz:∀ ob j,(w1.alloc ob).frozen? ⟨w.heap.size,j,none⟩=false:=(λob j=>(hb1.keep ((FR _).alloc ob)).free j);have HP1:=LH hp1;have HB1:=LH hb1;have HF1:=LH (((FR w).alloc (.cells #[.int .i64 0,.int .i64 0,.string ⟨#[]⟩,.slice none 0 0,.slice none 0 0] 29)).trans hf);clear hf hp1 hb1))
 refine bodyPost_ret (results_cell_row (by rfl) _ _ w.heap.size 29 _ (0,0) _ (by rfl) (set5 HB5.out) Tryz.underlying29 rfl (by kernel_rfl)) rfl ?_;refine H5.out.lift hR ?_ ((((FrX.of (C:=R) HF1.out).alloc _).setCell (p:=⟨R,3,none⟩) rfl _).setCell (p:=⟨R,2,none⟩) rfl _) _ _ _ _ _;simp [World.setCell];omega

theorem pvalue_is:∀ f,PVAt f:=by
 intro f
 induction f using Nat.strongRecOn with
 | _ f ih=>
  cases f with
  | zero=>intro R e ts i d p w _ _ _ _ _ hne;exact absurd (by unfold Rd.rdV;rfl) hne
  | succ f=>
   intro R e ts i d p w h hl hp hd hk hne;obtain ⟨⟨k,n,s,a⟩,ht⟩:∃ t,Rd.next e (ts.drop i)=t:=⟨_,rfl⟩;have hok:TokOk ⟨k,n,s,a⟩:=by rw [<- ht];exact next_ok (drop_tok hk)
   rw [ht] at hne ⊢;by_cases hb:Rd.leaf ⟨k,n,s,a⟩=none/\Rd.isM ⟨k,n,s,a⟩ 91=false/\Rd.isM ⟨k,n,s,a⟩ 123=false
   ·exact pval_bad f R e ts i k n s a d p w h hl hp ht hb (tok_kind hk ht)
   have hg:(k=2\/k=3\/k=4)\/(k=1/\(s=[91]\/s=[123])):=by
    by_cases h2:k=2
    ·exact .inl (.inl h2)
    by_cases h3:k=3
    ·exact .inl (.inr (.inl h3))
    by_cases h4:k=4
    ·exact .inl (.inr (.inr h4))
    have hlf:Rd.leaf ⟨k,n,s,a⟩=none:=by simp [Rd.leaf,h2,h3,h4]
    by_cases h7:Rd.isM ⟨k,n,s,a⟩ 91=true
    ·obtain ⟨rfl,rfl⟩:k=1/\s=[91]:=by simpa [Rd.isM] using h7
     exact .inr ⟨rfl,.inl rfl⟩
    ·have h7:Rd.isM ⟨k,n,s,a⟩ 91=false:=by simpa using h7
     cases h8:Rd.isM ⟨k,n,s,a⟩ 123 with
     | true=>
      obtain ⟨rfl,rfl⟩:k=1/\s=[123]:=by simpa [Rd.isM] using h8
      exact .inr ⟨rfl,.inr rfl⟩
     | false=>exact absurd ⟨hlf,h7,h8⟩ hb
   by_cases hd6:16<d
   ·exact pval_deep f R e ts i k n s a d p w h hl hp ht hb hg hd6
   by_cases h8:8192<=p
   ·exact pval_many f R e ts i k n s a d p w h hl hp ht hb hg hd6 h8
   rcases hg with (rfl | rfl | rfl) | ⟨rfl,rfl | rfl⟩
   ·by_cases h5:s=JV.tNull
    ·subst h5;exact pval_null f R e ts i n a d p w h hl hp ht hd6 h8
    by_cases h6:s=JV.tTrue
    ·subst h6;exact pval_true f R e ts i n a d p w h hl hp ht hd6 h8
    ·exact pval_word f R e ts i n s a d p w h hl hp ht h5 h6 hd6 h8
   ·exact pval_num f R e ts i n s a d p w h hl hp ht hok.2.1 hok.2.2 hd6 h8
   ·exact pval_text f R e ts i n s a d p w h hl hp ht hok.1 hd6 h8
   ·exact pval_list f (λg hg=>ih g (by omega)) R e ts i n a d p w h hl hp ht hk hd6 h8 hne
   ·exact pval_map f (λg hg=>ih g (by omega)) R e ts i n a d p w h hl hp ht hk hd6 h8 hne
/- The walk of the document's Value. -/

def PdP (w:World):Rd.R->Ending->World->Prop
 | .out,_,_=>False
 | .bad a c,x,w'=>x=.returned (.tuple #[.agg #[.int .i64 0,.int .i64 0,.string ⟨#[]⟩,.slice none 0 0,.slice none 0 0],.int .i64 (a:Nat),.int .i64 (c:Nat)])/\Fr w w'
 | .ok v _ _,x,w'=>∃ val,x=.returned (.tuple #[val,.int .i64 0,.int .i64 0])/\InV w' (Be w.heap.size w'.heap.size) v val/\Fr w w'
theorem results_css (w:World) (X:Nat) {tmps:Array Value} {x y:Value} (h2:tmps.getD 2 undef=.pointer (some ⟨X,0,none⟩)) (h3:tmps.getD 3 undef=x) (h4:tmps.getD 4 undef=y)
  (v0 v1 v2 v3 v4:Value) (hV:Blk w X #[v0,v1,v2,v3,v4] 29):
  (results Tryz.f31 tmps).run Tryz.prog w=.ok (.tuple #[.agg #[v0,v1,v2,v3,v4],x,y]) w:=by
 have a0:=hV.cell 0;have a1:=hV.cell 1;have a2:=hV.cell 2;have a3:=hV.cell 3;have a4:=hV.cell 4;simp at h2 h3 h4 a0 a1 a2 a3 a4;simp [results,Tryz.results31,h2,h3,h4,go_sem,a0,a1,a2,a3,a4]
theorem toks_g {s:List UInt8} {ts:List Scn.Tok} {p x:Nat} (h:Scn.tokens s=(ts,p,x)):∀ t∈ts,TokG t:=by
 intro t hi;refine ⟨toks_ok h t hi,?_⟩;unfold Scn.tokens at h;split at h
 ·simp only [Prod.mk.injEq] at h;rw [<- h.1] at hi;simp at hi
 ·rename_i hl
  have hi2:t∈(Scn.tk s 0).1:=by unfold Scn.tk;rw [h];exact hi
  have h2:=Scn.tk_good s.length s 0 (by omega) t hi2
  cases h2 with
  | mark c a hm=>show (1:Nat)<=4;omega
  | word w a hw=>show (2:Nat)<=4;omega
  | num n a h1 h2=>show (3:Nat)<=4;omega
  | text s a hs=>show (4:Nat)<=4;omega
theorem Fr.new5 {a w:World} (h:Fr a w) {X:Nat} (hX:a.heap.size<=X) (u0 u1 u2 u3 u4:Value):
  Fr a (((((w.setCell ⟨X,0,none⟩ u0).setCell ⟨X,1,none⟩ u1).setCell ⟨X,2,none⟩ u2).setCell ⟨X,3,none⟩ u3).setCell ⟨X,4,none⟩ u4):=
 ((((h.setCell (p:=⟨X,0,none⟩) hX _).setCell (p:=⟨X,1,none⟩) hX _).setCell (p:=⟨X,2,none⟩) hX _).setCell (p:=⟨X,3,none⟩) hX _).setCell (p:=⟨X,4,none⟩) hX _
theorem Prs.made {w:World} {A:Option Addr} {ts:List Scn.Tok} {c e:Nat} (h:TV w w.heap.size A ts):Prs (w.alloc (.cells #[.slice A ts.length c,.int .i64 (e:Nat),.int .i64 0,.int .i64 0,.int .i64 0,.int .i64 0] 92)) w.heap.size e ts 0 0 0 0:=
 ⟨⟨A,c,Blk.made w _ _,h.blw (Below.alloc (Below.refl _ _) (lR _) _)⟩,Nat.zero_le _⟩
theorem Prs.all {w:World} {R e:Nat} {ts:List Scn.Tok} {i p a c:Nat} (h:Prs w R e ts i p a c):∃ A cc,w.cell? ⟨R,0,none⟩=some (.slice A ts.length cc)/\w.cell? ⟨R,2,none⟩=some (.int .i64 (i:Nat))/\w.cell? ⟨R,4,none⟩=some (.int .i64 (a:Nat))/\w.cell? ⟨R,5,none⟩=some (.int .i64 (c:Nat)):=by
 obtain ⟨A,cc,hb,_⟩:=h.blk;exact ⟨A,cc,hb.cell 0,hb.cell 2,hb.cell 4,hb.cell 5⟩

theorem pread_tok (s:ByteArray) (ts:List Scn.Tok) (p x:Nat) (w:World) (hs:s.size<=9223372036854775807) (hT:PtTab w) (h:Scn.tokens s.data.toList=(ts,p,x)) (hx:x≠0):
  Calls Tryz.prog 31 #[.string s] w (PdP w (.bad p x)):=by
 have HT:=LH hT;have HK:=LH h;have hx':(((x:Nat):Int) != 0)=true:=by rw [bne_iff_ne];omega
 clear hT h hx;go_enter Tryz.func31,Tryz.ntmps31
 go_wp2_with (go_at_call 52;refine (rtokens_at s ts p x _ hs (HT.out.keep ((FR w).alloc _)) HK.out).mono ?_;rintro e w1 ⟨v,rfl,htk,hf⟩;have hb:=(Blk.made w #[.int .i64 0,.int .i64 0,.string ⟨#[]⟩,.slice none 0 0,.slice none 0 0] 29).keep hf;obtain ⟨⟨x0,x1,x2,x3,x4⟩,g0,g1,g2,g3,g4⟩:=box5 hb;have HB1:=LH hb;have HF1:=LH (((FR w).alloc (.cells #[.int .i64 0,.int .i64 0,.string ⟨#[]⟩,.slice none 0 0,.slice none 0 0] 29)).trans hf);clear hf htk hb)
 refine bodyPost_ret (results_css _ w.heap.size (by rfl) (by rfl) (by rfl) _ _ _ _ _ (set5 HB1.out)) rfl ?_;exact ⟨rfl,HF1.out.new5 (lR _) _ _ _ _ _⟩

theorem pread_bad (s:ByteArray) (ts:List Scn.Tok) (p:Nat) (w:World) (hs:s.size<=9223372036854775807) (hT:PtTab w) (h:Scn.tokens s.data.toList=(ts,p,0)) (hl:ts.length<=140737488355328) {a b:Nat} (hr:Rd.rdV (2*ts.length+3) s.size (Rd.next s.size ts) ts.tail 1 0=.bad a b):
  Calls Tryz.prog 31 #[.string s] w (PdP w (.bad a b)):=by
 have HT:=LH hT;have HK:=LH h;have hs':(s.size:Int)<=9223372036854775807:=by omega
 have HC:Hid (∀ P W,Prs W P s.size ts 0 0 0 0->Calls Tryz.prog 53 #[.pointer (some ⟨P,0,none⟩),.int .i64 1] W (PVP P s.size ts W (.bad a b))):=LH (λP W hW=>by
  have:=pvalue_is (2*ts.length+3) P s.size ts 0 1 0 W hW hl (by omega) (by omega) (toks_g h) (by rw [List.drop_zero,hr];simp);rw [List.drop_zero,hr] at this;exact this)
 clear hT h hr;go_enter Tryz.func31,Tryz.ntmps31
 go_wp2_with (first
  | (go_at_call 53;refine (HC.out _ _ HPR.out).mono ?_;rintro x w3 ⟨u,k3,n3,s3,A3,a3,b3,A3',a3',b3',rfl,hin,⟨i3,p3,hp3⟩,hc3,hf3⟩;have ec:(((b:Nat):Int) != 0)=true:=(by rw [bne_iff_ne];omega);have ec2:(((b:Nat):Int) == 0)=false:=(by rw [beq_eq_false_iff_ne];omega);have hb3:=(HB1.out.frx hf3 n0).keep ((FR _).alloc (.cells #[.int .i64 k3,.int .i64 n3,.string s3,.slice A3 a3 b3,.slice A3' a3' b3'] 29));have hq3:=hp3.keep ((FR _).alloc (.cells #[.int .i64 k3,.int .i64 n3,.string s3,.slice A3 a3 b3,.slice A3' a3' b3'] 29));obtain ⟨Aq,cq,q0,q2,q4,q5⟩:=hq3.all;obtain ⟨⟨x0,x1,x2,x3,x4⟩,g0,g1,g2,g3,g4⟩:=box5 hb3;have HB3:=LH hb3;have HF3:=LH ((HF1.out.frx hf3 (Nat.le_of_lt hlt1)).alloc (.cells #[.int .i64 k3,.int .i64 n3,.string s3,.slice A3 a3 b3,.slice A3' a3' b3'] 29));generalize hW:(w3.alloc (.cells #[.int .i64 k3,.int .i64 n3,.string s3,.slice A3 a3 b3,.slice A3' a3' b3'] 29))=W3 at *;clear hf3 hp3 hin hb3 hq3)
  | (go_at_call 52;refine (rtokens_at s ts p 0 _ hs (HT.out.keep ((FR w).alloc _)) HK.out).mono ?_;rintro e w1 ⟨v,rfl,htk,hf⟩;obtain ⟨A,c,rfl,hc,htv⟩:=htk.tv (lR _);have hb:=((Blk.made w #[.int .i64 0,.int .i64 0,.string ⟨#[]⟩,.slice none 0 0,.slice none 0 0] 29).keep hf).keep ((FR _).alloc (.cells #[.slice A ts.length c,.int .i64 (s.size:Nat),.int .i64 0,.int .i64 0,.int .i64 0,.int .i64 0] 92));have HB1:=LH hb;have HPR:=LH (Prs.made (c:=c) (e:=s.size) htv);have HF1:=LH ((((FR w).alloc (.cells #[.int .i64 0,.int .i64 0,.string ⟨#[]⟩,.slice none 0 0,.slice none 0 0] 29)).trans hf).alloc (.cells #[.slice A ts.length c,.int .i64 (s.size:Nat),.int .i64 0,.int .i64 0,.int .i64 0,.int .i64 0] 92));have hlt1:w.heap.size<w1.heap.size:=(lL (by simp) hf.size);have n0:¬ w.heap.size=w1.heap.size:=(by omega);have n1:¬ w1.heap.size=w.heap.size:=(by omega);have hA:=(FR w).alloc (.cells #[.int .i64 0,.int .i64 0,.string ⟨#[]⟩,.slice none 0 0,.slice none 0 0] 29);clear hf htk hc htv hb hA))
 go_quiet (fail)
 go_wp2_with fail
 go_region
 all_goals
  go_wp2_with fail
  refine bodyPost_ret (results_css _ w.heap.size (by rfl) (by rfl) (by rfl) _ _ _ _ _ (set5 (HB3.out.keep ((FR _).drewN _)))) rfl ?_;exact ⟨rfl,(HF3.out.drewN _).new5 (lR _) _ _ _ _ _⟩

theorem pread_rest (s:ByteArray) (ts:List Scn.Tok) (p:Nat) (w:World) (hs:s.size<=9223372036854775807) (hT:PtTab w) (h:Scn.tokens s.data.toList=(ts,p,0)) (hl:ts.length<=140737488355328) {v:JV} {t':Scn.Tok} {l:List Scn.Tok} {q:Nat} (hr:Rd.rdV (2*ts.length+3) s.size (Rd.next s.size ts) ts.tail 1 0=.ok v (t'::l) q):
  Calls Tryz.prog 31 #[.string s] w (PdP w (Rd.R.bad t'.at_ 50)):=by
 have HT:=LH hT;have HK:=LH h;have hs':(s.size:Int)<=9223372036854775807:=by omega
 have HC:Hid (∀ P W,Prs W P s.size ts 0 0 0 0->Calls Tryz.prog 53 #[.pointer (some ⟨P,0,none⟩),.int .i64 1] W (PVP P s.size ts W (Rd.R.ok v (t'::l) q))):=LH (λP W hW=>by
  have:=pvalue_is (2*ts.length+3) P s.size ts 0 1 0 W hW hl (by omega) (by omega) (toks_g h) (by rw [List.drop_zero,hr];simp);rw [List.drop_zero,hr] at this;exact this)
 clear hT h hr;go_enter Tryz.func31,Tryz.ntmps31
 go_wp2_with (first
  | (go_at_call 53;refine (HC.out _ _ HPR.out).mono ?_;rintro x w3 ⟨k3,n3,s3,A3,a3,b3,A3',a3',b3',rfl,hin,⟨i3,hp3,hd3⟩,hf3⟩;have hi3:i3<ts.length:=(by rcases Nat.lt_or_ge i3 ts.length with h9 | h9;exact h9;rw [List.drop_eq_nil_of_le h9] at hd3;cases hd3);have hi3':(i3:Int)<(ts.length:Int):=(by omega);have HN3:Hid (Rd.next s.size (ts.drop i3)=t'):=(by show _=_;rw [hd3];rfl);clear hd3;have hb3:=(HB1.out.frx hf3 n0).keep ((FR _).alloc (.cells #[.int .i64 k3,.int .i64 n3,.string s3,.slice A3 a3 b3,.slice A3' a3' b3'] 29));have hq3:=hp3.keep ((FR _).alloc (.cells #[.int .i64 k3,.int .i64 n3,.string s3,.slice A3 a3 b3,.slice A3' a3' b3'] 29));obtain ⟨Aq,cq,q0,q2,q4,q5⟩:=hq3.all;obtain ⟨⟨x0,x1,x2,x3,x4⟩,g0,g1,g2,g3,g4⟩:=box5 hb3;have hv3:=Blk.made w3 #[.int .i64 k3,.int .i64 n3,.string s3,.slice A3 a3 b3,.slice A3' a3' b3'] 29;obtain ⟨⟨y0,y1,y2,y3,y4⟩,z0,z1,z2,z3,z4⟩:=box5 hv3;have HB3:=LH hb3;have HP3:=LH hq3;have HF3:=LH ((HF1.out.frx hf3 (Nat.le_of_lt hlt1)).alloc (.cells #[.int .i64 k3,.int .i64 n3,.string s3,.slice A3 a3 b3,.slice A3' a3' b3'] 29));have HI3:=LH hin;have hlt3:=lL hlt1 (lT (by simp) hf3.size);have HZ3:Hid (w1.heap.size+1<=w3.heap.size):=LH (lT (by simp) hf3.size);have m2:¬ w3.heap.size=w.heap.size:=(by have:=HZ3.out;omega);have m3:¬ w.heap.size=w3.heap.size:=(by omega);clear hf3 hp3 hin hb3 hq3 hv3)
  | (go_at_call 52;refine (rtokens_at s ts p 0 _ hs (HT.out.keep ((FR w).alloc _)) HK.out).mono ?_;rintro e w1 ⟨v,rfl,htk,hf⟩;obtain ⟨A,c,rfl,hc,htv⟩:=htk.tv (lR _);have hb:=((Blk.made w #[.int .i64 0,.int .i64 0,.string ⟨#[]⟩,.slice none 0 0,.slice none 0 0] 29).keep hf).keep ((FR _).alloc (.cells #[.slice A ts.length c,.int .i64 (s.size:Nat),.int .i64 0,.int .i64 0,.int .i64 0,.int .i64 0] 92));have HB1:=LH hb;have HPR:=LH (Prs.made (c:=c) (e:=s.size) htv);have HF1:=LH ((((FR w).alloc (.cells #[.int .i64 0,.int .i64 0,.string ⟨#[]⟩,.slice none 0 0,.slice none 0 0] 29)).trans hf).alloc (.cells #[.slice A ts.length c,.int .i64 (s.size:Nat),.int .i64 0,.int .i64 0,.int .i64 0,.int .i64 0] 92));have hlt1:w.heap.size<w1.heap.size:=(lL (by simp) hf.size);have n0:¬ w.heap.size=w1.heap.size:=(by omega);have n1:¬ w1.heap.size=w.heap.size:=(by omega);have hA:=(FR w).alloc (.cells #[.int .i64 0,.int .i64 0,.string ⟨#[]⟩,.slice none 0 0,.slice none 0 0] 29);clear hf htk hc htv hb hA))
 go_quiet (fail)
 go_wp2_with (go_at_call 54;refine (fail_is w1.heap.size s.size ts i3 q 50 _ (HP3.out.drewN _) hl 50 rfl t' HN3.out).mono ?_;rintro x w4 ⟨rfl,hp4,hf4⟩;have hb4:=(HB3.out.keep ((FR _).drewN _)).frx hf4 n0;obtain ⟨A4,c4,r0,r2,r4,r5⟩:=hp4.all;obtain ⟨⟨x0,x1,x2,x3,x4⟩,g0,g1,g2,g3,g4⟩:=box5 hb4;have HB4:=LH hb4;have HF4:=LH ((HF3.out.drewN _).frx hf4 (Nat.le_of_lt hlt1));clear hf4 hp4 hb4)
 go_region
 all_goals
  go_wp2_with fail
  refine bodyPost_ret (results_css _ w.heap.size (by rfl) (by rfl) (by rfl) _ _ _ _ _ (Blk.drew (set5 HB4.out))) rfl ?_;exact ⟨rfl,(HF4.out.new5 (lR _) _ _ _ _ _).drew⟩

theorem pread_fine (s:ByteArray) (ts:List Scn.Tok) (p:Nat) (w:World) (hs:s.size<=9223372036854775807) (hT:PtTab w) (h:Scn.tokens s.data.toList=(ts,p,0)) (hl:ts.length<=140737488355328) {v:JV} {q:Nat} (hr:Rd.rdV (2*ts.length+3) s.size (Rd.next s.size ts) ts.tail 1 0=.ok v [] q):
  Calls Tryz.prog 31 #[.string s] w (PdP w (Rd.R.ok v [] q)):=by
 have HT:=LH hT;have HK:=LH h;have hs':(s.size:Int)<=9223372036854775807:=by omega
 have HC:Hid (∀ P W,Prs W P s.size ts 0 0 0 0->Calls Tryz.prog 53 #[.pointer (some ⟨P,0,none⟩),.int .i64 1] W (PVP P s.size ts W (Rd.R.ok v [] q))):=LH (λP W hW=>by
  have:=pvalue_is (2*ts.length+3) P s.size ts 0 1 0 W hW hl (by omega) (by omega) (toks_g h) (by rw [List.drop_zero,hr];simp);rw [List.drop_zero,hr] at this;exact this)
 clear hT h hr;go_enter Tryz.func31,Tryz.ntmps31
 go_wp2_with (first
  | (go_at_call 53;refine (HC.out _ _ HPR.out).mono ?_;rintro x w3 ⟨k3,n3,s3,A3,a3,b3,A3',a3',b3',rfl,hin,⟨i3,hp3,hd3⟩,hf3⟩;have hi3:i3=ts.length:=(by have h9:ts.length - i3=0:=(by rw [<- List.length_drop,hd3];rfl);have:=hp3.hi;omega);subst hi3;clear hd3;have hb3:=(HB1.out.frx hf3 n0).keep ((FR _).alloc (.cells #[.int .i64 k3,.int .i64 n3,.string s3,.slice A3 a3 b3,.slice A3' a3' b3'] 29));have hq3:=hp3.keep ((FR _).alloc (.cells #[.int .i64 k3,.int .i64 n3,.string s3,.slice A3 a3 b3,.slice A3' a3' b3'] 29));obtain ⟨Aq,cq,q0,q2,q4,q5⟩:=hq3.all;obtain ⟨⟨x0,x1,x2,x3,x4⟩,g0,g1,g2,g3,g4⟩:=box5 hb3;have hv3:=Blk.made w3 #[.int .i64 k3,.int .i64 n3,.string s3,.slice A3 a3 b3,.slice A3' a3' b3'] 29;obtain ⟨⟨y0,y1,y2,y3,y4⟩,z0,z1,z2,z3,z4⟩:=box5 hv3;have HB3:=LH hb3;have HP3:=LH hq3;have HF3:=LH ((HF1.out.frx hf3 (Nat.le_of_lt hlt1)).alloc (.cells #[.int .i64 k3,.int .i64 n3,.string s3,.slice A3 a3 b3,.slice A3' a3' b3'] 29));have HI3:=LH hin;have hlt3:=lL hlt1 (lT (by simp) hf3.size);have HZ3:Hid (w1.heap.size+1<=w3.heap.size):=LH (lT (by simp) hf3.size);have m2:¬ w3.heap.size=w.heap.size:=(by have:=HZ3.out;omega);have m3:¬ w.heap.size=w3.heap.size:=(by omega);clear hf3 hp3 hin hb3 hq3 hv3)
  | (go_at_call 52;refine (rtokens_at s ts p 0 _ hs (HT.out.keep ((FR w).alloc _)) HK.out).mono ?_;rintro e w1 ⟨v,rfl,htk,hf⟩;obtain ⟨A,c,rfl,hc,htv⟩:=htk.tv (lR _);have hb:=((Blk.made w #[.int .i64 0,.int .i64 0,.string ⟨#[]⟩,.slice none 0 0,.slice none 0 0] 29).keep hf).keep ((FR _).alloc (.cells #[.slice A ts.length c,.int .i64 (s.size:Nat),.int .i64 0,.int .i64 0,.int .i64 0,.int .i64 0] 92));have HB1:=LH hb;have HPR:=LH (Prs.made (c:=c) (e:=s.size) htv);have HF1:=LH ((((FR w).alloc (.cells #[.int .i64 0,.int .i64 0,.string ⟨#[]⟩,.slice none 0 0,.slice none 0 0] 29)).trans hf).alloc (.cells #[.slice A ts.length c,.int .i64 (s.size:Nat),.int .i64 0,.int .i64 0,.int .i64 0,.int .i64 0] 92));have hlt1:w.heap.size<w1.heap.size:=(lL (by simp) hf.size);have n0:¬ w.heap.size=w1.heap.size:=(by omega);have n1:¬ w1.heap.size=w.heap.size:=(by omega);have hA:=(FR w).alloc (.cells #[.int .i64 0,.int .i64 0,.string ⟨#[]⟩,.slice none 0 0,.slice none 0 0] 29);clear hf htk hc htv hb hA))
 go_quiet (fail)
 go_wp2_with fail
 refine bodyPost_ret (results_css _ w.heap.size (by rfl) (by rfl) (by rfl) _ _ _ _ _ (set5 (HB3.out.keep ((FR _).drewN _)))) rfl ?_;refine ⟨_,rfl,?_,(HF3.out.drewN _).new5 (lR _) _ _ _ _ _⟩;rw [size5];refine InV.more (S:=Be (w.heap.size+1) (w3.alloc (.cells #[.int .i64 k3,.int .i64 n3,.string s3,.slice A3 a3 b3,.slice A3' a3' b3'] 29)).heap.size) ?_ (λb hb=>⟨by have:=hb.1;omega,hb.2⟩);refine InV.far5 (X:=w.heap.size) ?_ (by omega) _ _ _ _ _;exact HI3.out.map (λb hb=>⟨by have:=hb.1;simp at this;omega,by have:=hb.2;simp;omega⟩) (λb o hb=>((FR w3).alloc _).cell hb.2)
theorem pread_is (s:ByteArray) (w:World) (hs:s.size<=9223372036854775807) (hT:PtTab w):Calls Tryz.prog 31 #[.string s] w (PdP w (Rd.rdS s.data.toList)):=by
 rcases h:Scn.tokens s.data.toList with ⟨ts,p,x⟩;have hlen:s.data.toList.length=s.size:=by simp
 have hl:ts.length<=140737488355328:=by
  unfold Scn.tokens at h;split at h
  ·simp only [Prod.mk.injEq] at h;rw [<- h.1];simp
  ·have:=Scn.tk_len s.data.toList.length s.data.toList 0 (by omega);unfold Scn.tk at this;rw [h] at this;simp only at this;omega
 rw [Rd.rdS_def _ h,hlen];split
 ·rename_i hx
  subst hx;have h6:=(Rd.rd_fuel (2*ts.length+3)).1 s.size (Rd.next s.size ts) ts.tail 1 0 (by simp;omega);rcases hr:Rd.rdV (2*ts.length+3) s.size (Rd.next s.size ts) ts.tail 1 0 with _ | ⟨a,b⟩ | ⟨v,l,q⟩
  ·exact absurd hr h6
  ·exact pread_bad s ts p w hs hT h hl hr
  ·cases l with
   | nil=>exact pread_fine s ts p w hs hT h hl hr
   | cons t' l=>exact pread_rest s ts p w hs hT h hl hr
 ·rename_i hx
  exact pread_tok s ts p x w hs hT h hx
/- The law ReadValues. -/


theorem pread_b (s:ByteArray) (a c:Nat) (w:World) (hs:s.size<=9223372036854775807) (hT:PtTab w) (h:Rd.rdS s.data.toList=.bad a c):
  Calls Tryz.prog 31 #[.string s] w λe w'=>e=.returned (.tuple #[.agg #[.int .i64 0,.int .i64 0,.string ⟨#[]⟩,.slice none 0 0,.slice none 0 0],.int .i64 (a:Nat),.int .i64 (c:Nat)])/\Fr w w':=by
 have:=pread_is s w hs hT;rw [h] at this;exact this
theorem pread_v (s:ByteArray) (v:JV) (l:List Scn.Tok) (q:Nat) (w:World) (hs:s.size<=9223372036854775807) (hT:PtTab w) (h:Rd.rdS s.data.toList=.ok v l q):
  Calls Tryz.prog 31 #[.string s] w λe w'=>∃ (B:Option Addr) (d:Nat) (B':Option Addr) (d':Nat),e=.returned (.tuple #[.agg #[.int .i64 v.kd,.int .i64 v.nm,.string ⟨v.tx.toArray⟩,.slice B v.ls.length d,.slice B' v.ms.length d'],.int .i64 0,.int .i64 0])/\InV w' (Be w.heap.size w'.heap.size) v (vA v B d B' d')/\Fr w w':=by
 have:=pread_is s w hs hT;rw [h] at this;refine this.mono ?_;rintro e w' ⟨val,rfl,hi,hf⟩;obtain ⟨A,c,A',c',rfl,_,_⟩:=hi.open_;exact ⟨A,c,A',c',rfl,hi,hf⟩

end Go.Proofs.YtockgemmkjdnkaaGreatDoor
