/- The walk of the reader's list. -/
import Derived.Test.YtdhakbghdcfncaaGreatDoorRda
import Derived.Test.YtdhakbghdcfncaaGreatDoorEe
import Derived.Test.YtdhakbghdcfncaaGreatDoorPb
namespace Go.Proofs.YtdhakbghdcfncaaGreatDoor
set_option maxRecDepth 100000
set_option maxHeartbeats 2000000
set_option linter.unusedVariables false
set_option linter.unusedSimpArgs false
open Go.RowKit

theorem VsI.sft {w:World} {lo base:Nat} {A:Option Addr} {n c:Nat} {l:List JV} (h:VsI w lo base (.slice A n c) l):Sft w A:=by
 obtain ⟨_,xs,h1,_⟩:=h
 exact sft_own h1.1
theorem MsI.sft {w:World} {lo base:Nat} {A:Option Addr} {n c:Nat} {l:List (List UInt8 × JV)} (h:MsI w lo base (.slice A n c) l):Sft w A:=by
 obtain ⟨_,xs,h1,_⟩:=h
 exact sft_own h1.1
def ValAt (g:Nat):Prop:=∀ (R e:Nat) (t:Scn.Tok) (l:List Scn.Tok) (d p:Nat) (w:World),Rdr w R e l p→p≤8192→d≤17→TokOk t→(∀ x∈l,TokOk x)→Rd.rdV g e t l d p≠.out →
 Calls Tryz.prog 46 #[.pointer (some ⟨R,0,none⟩),tkA t,.int .i64 (d:Nat)] w (ValP R e w (Rd.rdV g e t l d p))
theorem ValAt.bad {g R e:Nat} {t:Scn.Tok} {l:List Scn.Tok} {d p:Nat} {w:World} (h:ValAt g) (h1:Rdr w R e l p) (h2:p≤8192) (h3:d≤17) (h4:TokOk t) (h5:∀ x∈l,TokOk x) {z:Int} (hz:z=((d:Nat):Int)) {a c:Nat} (hr:Rd.rdV g e t l d p=.bad a c):
  Calls Tryz.prog 46 #[.pointer (some ⟨R,0,none⟩),tkA t,.int .i64 z] w fun x w'=>x=.panicked [{ v:=faultV a c,recovered:=false }]∧FrX R w w':=by
 subst hz
 have:=h R e t l d p w h1 h2 h3 h4 h5 (by rw [hr];simp)
 rw [hr] at this;exact this
theorem ValAt.ok {g R e:Nat} {t:Scn.Tok} {l:List Scn.Tok} {d p:Nat} {w:World} (h:ValAt g) (h1:Rdr w R e l p) (h2:p≤8192) (h3:d≤17) (h4:TokOk t) (h5:∀ x∈l,TokOk x) {z:Int} (hz:z=((d:Nat):Int)) {v:JV} {l':List Scn.Tok} {p':Nat} (hr:Rd.rdV g e t l d p=.ok v l' p'):
  Calls Tryz.prog 46 #[.pointer (some ⟨R,0,none⟩),tkA t,.int .i64 z] w fun x w'=>∃ (k n:Int) (s:ByteArray) (A:Option Addr) (a b:Nat) (A':Option Addr) (a' b':Nat),x=.returned (.agg #[.int .i64 k,.int .i64 n,.string s,.slice A a b,.slice A' a' b'])∧InV w' (Be w.heap.size w'.heap.size) v (.agg #[.int .i64 k,.int .i64 n,.string s,.slice A a b,.slice A' a' b'])∧Rdr w' R e l' p'∧FrX R w w':=by
 subst hz
 have:=h R e t l d p w h1 h2 h3 h4 h5 (by rw [hr];simp)
 rw [hr] at this
 refine this.mono ?_
 rintro x w' ⟨val,rfl,⟨hi,_⟩,hr,hf⟩
 obtain ⟨A,c,A',c',rfl,_,_⟩:=hi.open_
 exact ⟨_,_,_,_,_,_,_,_,_,rfl,hi,hr,hf⟩
theorem ValAt.okT {g R e:Nat} {t:Scn.Tok} {l:List Scn.Tok} {d p:Nat} {w:World} (h:ValAt g) (h1:Rdr w R e l p) (h2:p≤8192) (h3:d≤17) (h4:TokOk t) (h5:∀ x∈l,TokOk x) {z:Int} (hz:z=((d:Nat):Int)) {v:JV} {l':List Scn.Tok} {p':Nat} (hr:Rd.rdV g e t l d p=.ok v l' p'):
  Calls Tryz.prog 46 #[.pointer (some ⟨R,0,none⟩),tkA t,.int .i64 z] w fun x w'=>∃ (k n:Int) (s:ByteArray) (A:Option Addr) (a b:Nat) (A':Option Addr) (a' b':Nat),x=.returned (.agg #[.int .i64 k,.int .i64 n,.string s,.slice A a b,.slice A' a' b'])∧(InV w' (Be w.heap.size w'.heap.size) v (.agg #[.int .i64 k,.int .i64 n,.string s,.slice A a b,.slice A' a' b'])∧TopF w' (.agg #[.int .i64 k,.int .i64 n,.string s,.slice A a b,.slice A' a' b']))∧Rdr w' R e l' p'∧FrX R w w':=by
 subst hz
 have:=h R e t l d p w h1 h2 h3 h4 h5 (by rw [hr];simp)
 rw [hr] at this
 refine this.mono ?_
 rintro x w' ⟨val,rfl,⟨hi,ht⟩,hr,hf⟩
 obtain ⟨A,c,A',c',rfl,_,_⟩:=hi.open_
 exact ⟨_,_,_,_,_,_,_,_,_,rfl,⟨hi,ht⟩,hr,hf⟩
theorem next_at (R e:Nat) (ts:List Scn.Tok) (p:Nat) (t:Scn.Tok) (ht:Rd.next e ts=t) (w:World) (h:Rdr w R e ts p):
  Calls Tryz.prog 47 #[.pointer (some ⟨R,0,none⟩)] w fun x w'=>x=.returned (.agg #[.int .i64 (t.kind:Nat),.int .i64 t.n,.string ⟨t.s.toArray⟩,.int .i64 (t.at_:Nat)])∧Rdr w' R e ts.tail p∧FrX R w w':=by
 subst ht;exact next_is R e ts p w h
theorem next_ok {e:Nat} {l:List Scn.Tok} (h:∀ x∈l,TokOk x):TokOk (Rd.next e l):=by
 cases l with
 | nil=>exact ⟨by simp [Rd.next],by simp [Rd.next],by simp [Rd.next]⟩
 | cons t l=>exact h t (by simp)
theorem tail_ok {l:List Scn.Tok} (h:∀ x∈l,TokOk x):∀ x∈l.tail,TokOk x:=fun x hx=>h x (List.mem_of_mem_tail hx)
def LstP (R e:Nat) (w:World):Rd.R→Ending→World→Prop
 | .out,_,_=>False
 | .bad a c,x,w'=>x=.panicked [{ v:=faultV a c,recovered:=false }]∧FrX R w w'
 | .ok v l p,x,w'=>∃ val ls,v=JV.listV ls∧x=.returned val∧VsI w' w.heap.size w.heap.size val ls∧ls.length≤8192∧Rdr w' R e l p∧FrX R w w'
structure LI (R e d:Nat) (w wr:World) (r:Rd.R) (f:Nat) (l:List Scn.Tok) (p:Nat) (v:Value) (acc:List JV):Prop where
 run:Rd.rdL f e l d p acc=r
 rd:Rdr wr R e l p
 p8:p≤8192
 tok:∀ x∈l,TokOk x
 vs:VsI wr w.heap.size w.heap.size v acc
 len:acc.length≤p
 fr:FrX R w wr

theorem list_is (f:Nat) (hV:∀ g,g<f→ValAt g) (R e:Nat) (l:List Scn.Tok) (d p:Nat) (w:World) (h:Rdr w R e l p) (hp:p≤8192) (hd:d≤16) (hl:∀ x∈l,TokOk x) (r:Rd.R)
  (hr:(if Rd.isM (Rd.next e l) 93 then Rd.R.ok (JV.listV []) l.tail p else Rd.rdL f e l d p [])=r) (hne:r≠.out):
  Calls Tryz.prog 71 #[.pointer (some ⟨R,0,none⟩),.int .i64 (d:Nat)] w (LstP R e w r):=by
 have HR:=Lib.hid h
 have HL:=Lib.hid hl
 have hlt:Hid (R<w.heap.size):=h.lt
 by_cases hm:Rd.isM (Rd.next e l) 93=true
 ·rw [if_pos hm] at hr
  subst hr
  have HM:=Lib.hid hm
  clear hm h hl hne hV
  go_enter Tryz.func71,Tryz.ntmps71
  go_wp2_with (first
   | (go_at_call 92;refine (peek_is R e l p 93 true _ HR.out HM.out).mono ?_;rintro x w1 ⟨rfl,hf⟩;have HF1:=Lib.hid hf;clear hf)
   | (go_at_call 47;refine (next_at R e l p _ rfl _ (HR.out.keep HF1.out)).mono ?_;rintro x w2 ⟨rfl,hr2,hf⟩;have HR2:=Lib.hid hr2;have HF2:=Lib.hid hf;clear hf hr2))
  go_ret
  exact ⟨_,[],rfl,rfl,VsI.none_ _ (Nat.le_refl _),by simp,HR2.out,(FrX.of HF1.out).trans HF2.out⟩
 have hm:Rd.isM (Rd.next e l) 93=false:=by simpa using hm
 rw [hm,if_neg (by simp)] at hr
 have HM:=Lib.hid hm
 have HRR:=Lib.hid hr
 have HNE:=Lib.hid hne
 have HV:=Lib.hid hV
 have hd':(d:Int)≤16:=by omega
 clear hm h hl hne hV hr
 go_enter Tryz.func71,Tryz.ntmps71
 go_wp2_with (go_at_call 92;refine (peek_is R e l p 93 false _ HR.out HM.out).mono ?_;rintro x w1 ⟨rfl,hf⟩;have HF1:=Lib.hid hf;clear hf)
 go_loopg [5] f (fun m v wr=>∃ (l:List Scn.Tok) (p:Nat) (acc:List JV),m≤f∧Hid (LI R e d w wr r m l p v acc))
 case atStart=>exact ⟨l,p,[],Nat.le_refl _,Lib.hid ⟨HRR.out,HR.out.keep HF1.out,hp,HL.out,VsI.none_ _ (Nat.le_refl _),by simp,FrX.of HF1.out⟩⟩
 case round=>
  obtain ⟨l,p,acc,hgf,hI⟩:=hrel
  obtain ⟨m,rfl⟩:∃ m,gk=m+1:=by
   cases gk with
   | zero=>exact absurd (hI.out.run.symm.trans (by unfold Rd.rdL;rfl)) HNE.out
   | succ m=>exact ⟨m,rfl⟩
  have hrun:=hI.out.run
  rw [Rd.rdL_succ] at hrun
  have HVm:Hid (ValAt m):=HV.out m (by omega)
  obtain ⟨t,ht⟩:∃ t,Rd.next e l=t:=⟨_,rfl⟩
  rw [ht] at hrun
  have HT:=Lib.hid ht
  have HTO:Hid (TokOk t):=by show TokOk t;rw [← ht];exact next_ok hI.out.tok
  have HTL:Hid (∀ x∈l.tail,TokOk x):=tail_ok hI.out.tok
  have hdd:Hid (((d:Int)+1)=((d+1:Nat):Int)):=by show _=_;omega
  have hd17:Hid (d+1≤17):=by show _≤_;omega
  clear ht
  rcases hv:Rd.rdV m e t l.tail (d+1) p with _ | ⟨a,c⟩ | ⟨u,l2,p2⟩
  ·rw [hv] at hrun;exact absurd hrun.symm HNE.out
  ·rw [hv] at hrun
   simp only at hrun
   subst hrun
   have HVV:=Lib.hid hv
   clear hv
   go_wp2_with (first
    | (go_at_call 46;have hm:=HN1.out;refine (HVm.out.bad HR1.out hI.out.p8 hd17.out HTO.out HTL.out hdd.out HVV.out).mono ?_;rintro x w3 ⟨rfl,hf⟩;have HF3:=Lib.hid (hm.trans hf);clear hf hm)
    | (go_at_call 47;refine (next_at R e l p t HT.out _ hI.out.rd).mono ?_;rintro x w2 ⟨rfl,hr1,hf⟩;have HR1:=Lib.hid hr1;have HN1:=Lib.hid (hI.out.fr.trans hf);clear hf hr1))
   exact ⟨rfl,rfl,HF3.out⟩
  ·rw [hv] at hrun
   simp only at hrun
   have HVV:=Lib.hid hv
   have hs:=(Rd.rd_sorts m).1 _ _ _ _ _ _ _ _ hv
   have hp2:Hid (p+1≤p2∧p2≤8192):=by
    have:=Rd.nv_pos u
    show _∧_;omega
   have HT2:Hid (∀ x∈l2,TokOk x):=by
    have:=(Rd.rd_toks m).1 _ _ _ _ _ _ _ _ hv
    intro x hx;exact HTL.out x (this x hx)
   clear hv hs
   obtain ⟨t2,ht2⟩:∃ t,Rd.next e l2=t:=⟨_,rfl⟩
   rw [ht2] at hrun
   have HTT:=Lib.hid ht2
   clear ht2
   have hlen:Hid ((acc.length+1)*80≤140737488355328):=by have:=hI.out.len;have:=hI.out.p8;show _≤_;omega
   have five_agg:∀ {k n:Int} {s:ByteArray} {A:Option Addr} {a b:Nat} {A':Option Addr} {a' b':Nat},Five (.agg #[.int .i64 k,.int .i64 n,.string s,.slice A a b,.slice A' a' b']):=fun {_ _ _ _ _ _ _ _ _}=>⟨_,_,_,_,_,rfl,rfl,rfl,rfl,rfl,rfl⟩
   by_cases h93:Rd.isM t2 93=true
   ·rw [if_pos h93] at hrun
    subst hrun
    have H93:=Lib.hid h93
    clear h93
    go_wp2_with (first
    | (go_at_call 70;have hm:=HF5.out;refine (is_is t2 93 _ true H93.out).mono ?_;rintro x w6 ⟨rfl,hf⟩;have HF6:=Lib.hid (((Fr.refl _).alloc _).trans hf);have hx:=(TB.made w5 t2).keep hf;have HX6:=Lib.hid hx;obtain ⟨_,x0,x1,x2,x3⟩:=hx;clear hf hm)
    | (go_at_call 47;have hm:=HR4.out;refine (next_at R e l2 p2 t2 HTT.out _ hm).mono ?_;rintro x w5 ⟨rfl,hr5,hf⟩;have HR5:=Lib.hid hr5;have HF5:=Lib.hid (HF4.out.trans hf);have HVS5:=Lib.hid (HVS4.out.frx hlt.out hf);clear hf hr5 hm)
    | (at_builtin;have hm:=HR3.out;refine wpl_vs rfl (.tmp 11) (.tmp 18) rfl w.heap.size w.heap.size HB3.out u5 acc rfl HVS3.out u five_agg HU3.out rfl rfl hlen.out ?_;intro v4 w4 hv4 hb4 _;have HVS4:=Lib.hid hv4;have HR4:=Lib.hid (hm.keepB (Below.mono hb4 hlt.out));have HF4:=Lib.hid (HF3.out.beyond hb4 (Nat.le_refl _));clear hv4 hb4 hm)
    | (go_at_call 46;have hm:=HN1.out;refine (HVm.out.ok HR1.out hI.out.p8 hd17.out HTO.out HTL.out hdd.out HVV.out).mono ?_;rintro x w3 ⟨k3,n3,s3,A3,a3,b3,A3',a3',b3',rfl,hin,hr3,hf⟩;have HF3:=Lib.hid (hm.trans hf);have HB3:Hid (w.heap.size≤w3.heap.size):=(HF3.out.size);have HVS3:=Lib.hid (HVS1.out.frx hlt.out hf);have HU3:=Lib.hid (hin.more (In.new HVS1.out (HN1.out.size) (Nat.le_refl _)));have HR3:=Lib.hid hr3;clear hf hm hin hr3)
    | (go_at_call 47;refine (next_at R e l p t HT.out _ hI.out.rd).mono ?_;rintro x w2 ⟨rfl,hr1,hf⟩;have HR1:=Lib.hid hr1;have HN1:=Lib.hid (hI.out.fr.trans hf);have HVS1:=Lib.hid (hI.out.vs.frx hlt.out hf);clear hf hr1))
    go_ret
    exact ⟨v4,acc++[u],rfl,rfl,HVS5.out.keep HF6.out,by have:=hI.out.len;have:=hp2.out;simp;omega,HR5.out.keep HF6.out,HF5.out.fr HF6.out⟩
   have h93:Rd.isM t2 93=false:=by simpa using h93
   rw [h93,if_neg (by simp)] at hrun
   have H93:=Lib.hid h93
   clear h93
   by_cases h44:Rd.isM t2 44=true
   ·rw [if_pos h44] at hrun
    have H44:=Lib.hid h44
    have HRUN:=Lib.hid hrun
    clear h44 hrun
    go_wp2_with (first
    | (go_at_call 70;have hm:=HF6.out;refine (is_is t2 44 _ true H44.out).mono ?_;rintro x w7 ⟨rfl,hf⟩;have HF7:=Lib.hid (hm.trans hf);clear hf hm)
    | (go_at_call 70;have hm:=HF5.out;refine (is_is t2 93 _ false H93.out).mono ?_;rintro x w6 ⟨rfl,hf⟩;have HF6:=Lib.hid (((Fr.refl _).alloc _).trans hf);have hx:=(TB.made w5 t2).keep hf;have HX6:=Lib.hid hx;obtain ⟨_,x0,x1,x2,x3⟩:=hx;clear hf hm)
    | (go_at_call 47;have hm:=HR4.out;refine (next_at R e l2 p2 t2 HTT.out _ hm).mono ?_;rintro x w5 ⟨rfl,hr5,hf⟩;have HR5:=Lib.hid hr5;have HF5:=Lib.hid (HF4.out.trans hf);have HVS5:=Lib.hid (HVS4.out.frx hlt.out hf);clear hf hr5 hm)
    | (at_builtin;have hm:=HR3.out;refine wpl_vs rfl (.tmp 11) (.tmp 18) rfl w.heap.size w.heap.size HB3.out u5 acc rfl HVS3.out u five_agg HU3.out rfl rfl hlen.out ?_;intro v4 w4 hv4 hb4 _;have HVS4:=Lib.hid hv4;have HR4:=Lib.hid (hm.keepB (Below.mono hb4 hlt.out));have HF4:=Lib.hid (HF3.out.beyond hb4 (Nat.le_refl _));clear hv4 hb4 hm)
    | (go_at_call 46;have hm:=HN1.out;refine (HVm.out.ok HR1.out hI.out.p8 hd17.out HTO.out HTL.out hdd.out HVV.out).mono ?_;rintro x w3 ⟨k3,n3,s3,A3,a3,b3,A3',a3',b3',rfl,hin,hr3,hf⟩;have HF3:=Lib.hid (hm.trans hf);have HB3:Hid (w.heap.size≤w3.heap.size):=(HF3.out.size);have HVS3:=Lib.hid (HVS1.out.frx hlt.out hf);have HU3:=Lib.hid (hin.more (In.new HVS1.out (HN1.out.size) (Nat.le_refl _)));have HR3:=Lib.hid hr3;clear hf hm hin hr3)
    | (go_at_call 47;refine (next_at R e l p t HT.out _ hI.out.rd).mono ?_;rintro x w2 ⟨rfl,hr1,hf⟩;have HR1:=Lib.hid hr1;have HN1:=Lib.hid (hI.out.fr.trans hf);have HVS1:=Lib.hid (hI.out.vs.frx hlt.out hf);clear hf hr1))
    go_roundg m
    case measure=>omega
    case rel=>exact ⟨l2.tail,p2,acc++[u],by omega,Lib.hid ⟨HRUN.out,HR5.out.keep HF7.out,hp2.out.2,tail_ok HT2.out,HVS5.out.keep HF7.out,by have:=hI.out.len;have:=hp2.out;simp;omega,HF5.out.fr HF7.out⟩⟩
   ·have h44:Rd.isM t2 44=false:=by simpa using h44
    rw [h44,if_neg (by simp)] at hrun
    subst hrun
    have H44:=Lib.hid h44
    clear h44
    go_wp2_with (first
    | (go_at_call 48;have hm:=HF7.out;refine (wrong_at t2 50 50 rfl _).mono ?_;rintro x w8 ⟨rfl,hf⟩;have HF8:=Lib.hid (hm.trans hf);clear hf hm)
    | (go_at_call 70;have hm:=HF6.out;refine (is_is t2 44 _ false H44.out).mono ?_;rintro x w7 ⟨rfl,hf⟩;have HF7:=Lib.hid (hm.trans hf);have hx:=HX6.out.keep hf;obtain ⟨_,y0,y1,y2,y3⟩:=hx;clear hf hm)
    | (go_at_call 70;have hm:=HF5.out;refine (is_is t2 93 _ false H93.out).mono ?_;rintro x w6 ⟨rfl,hf⟩;have HF6:=Lib.hid (((Fr.refl _).alloc _).trans hf);have hx:=(TB.made w5 t2).keep hf;have HX6:=Lib.hid hx;obtain ⟨_,x0,x1,x2,x3⟩:=hx;clear hf hm)
    | (go_at_call 47;have hm:=HR4.out;refine (next_at R e l2 p2 t2 HTT.out _ hm).mono ?_;rintro x w5 ⟨rfl,hr5,hf⟩;have HR5:=Lib.hid hr5;have HF5:=Lib.hid (HF4.out.trans hf);have HVS5:=Lib.hid (HVS4.out.frx hlt.out hf);clear hf hr5 hm)
    | (at_builtin;have hm:=HR3.out;refine wpl_vs rfl (.tmp 11) (.tmp 18) rfl w.heap.size w.heap.size HB3.out u5 acc rfl HVS3.out u five_agg HU3.out rfl rfl hlen.out ?_;intro v4 w4 hv4 hb4 _;have HVS4:=Lib.hid hv4;have HR4:=Lib.hid (hm.keepB (Below.mono hb4 hlt.out));have HF4:=Lib.hid (HF3.out.beyond hb4 (Nat.le_refl _));clear hv4 hb4 hm)
    | (go_at_call 46;have hm:=HN1.out;refine (HVm.out.ok HR1.out hI.out.p8 hd17.out HTO.out HTL.out hdd.out HVV.out).mono ?_;rintro x w3 ⟨k3,n3,s3,A3,a3,b3,A3',a3',b3',rfl,hin,hr3,hf⟩;have HF3:=Lib.hid (hm.trans hf);have HB3:Hid (w.heap.size≤w3.heap.size):=(HF3.out.size);have HVS3:=Lib.hid (HVS1.out.frx hlt.out hf);have HU3:=Lib.hid (hin.more (In.new HVS1.out (HN1.out.size) (Nat.le_refl _)));have HR3:=Lib.hid hr3;clear hf hm hin hr3)
    | (go_at_call 47;refine (next_at R e l p t HT.out _ hI.out.rd).mono ?_;rintro x w2 ⟨rfl,hr1,hf⟩;have HR1:=Lib.hid hr1;have HN1:=Lib.hid (hI.out.fr.trans hf);have HVS1:=Lib.hid (hI.out.vs.frx hlt.out hf);clear hf hr1))
    exact ⟨rfl,rfl,HF5.out.fr HF8.out⟩
/- The walk of the reader's members. -/

def MapP (R e:Nat) (w:World):Rd.R→Ending→World→Prop
 | .out,_,_=>False
 | .bad a c,x,w'=>x=.panicked [{ v:=faultV a c,recovered:=false }]∧FrX R w w'
 | .ok v l p,x,w'=>∃ val ms,v=JV.mapV ms∧x=.returned val∧MsI w' w.heap.size w.heap.size val ms∧ms.length≤8192∧Rdr w' R e l p∧FrX R w w'
structure Mid (R K:Nat) (w wr:World) (S:Nat→Prop) (v:Value) (acc:List (List UInt8 × JV)) (n:Nat) (ks:List (List UInt8)):Prop where
 ms:MsS wr S (K+1) v acc
 kn:Known wr K n ks
 fr:FrX R w wr
 hR:R<w.heap.size
 hK:w.heap.size≤K
theorem Mid.next {R K:Nat} {w wr w':World} {S:Nat→Prop} {v:Value} {acc:List (List UInt8 × JV)} {n:Nat} {ks:List (List UInt8)} (h:Mid R K w wr S v acc n ks) (hf:FrX R wr w'):Mid R K w w' S v acc n ks:=
 ⟨h.ms.below (by have:=h.hR;have:=h.hK;omega) hf,h.kn.frx hf (by have:=h.hR;have:=h.hK;omega),h.fr.trans hf,h.hR,h.hK⟩
theorem Mid.keep {R K:Nat} {w wr w':World} {S:Nat→Prop} {v:Value} {acc:List (List UInt8 × JV)} {n:Nat} {ks:List (List UInt8)} (h:Mid R K w wr S v acc n ks) (hf:Fr wr w'):Mid R K w w' S v acc n ks:=
 ⟨h.ms.keep hf,h.kn.keep hf,h.fr.fr hf,h.hR,h.hK⟩
theorem FrX.far {R X:Nat} {a w w':World} (h:FrX R a w) (hf:FrX X w w') (hX:a.heap.size≤X):FrX R a w':=by
 have h':a.grownBy w (some R):=h
 have k':w.grownBy w' (some X):=hf
 exact ⟨k'.os.trans h'.os,k'.tape.trans h'.tape,k'.output.trans h'.output,Nat.le_trans h'.size k'.size,fun k hk hne=>(hf.blk (Nat.lt_of_lt_of_le hk h'.size) (by omega)).trans (h'.block k hk hne)⟩
theorem Mid.box {R K:Nat} {w wr w':World} {S:Nat→Prop} {v:Value} {acc:List (List UInt8 × JV)} {n:Nat} {ks:List (List UInt8)} (h:Mid R K w wr S v acc n ks) {X:Nat} {cs:Array Value} {T:TypeId} (hX:Blk wr X cs T) (hT:T≠39) (hS:¬ S X) (hK:w.heap.size≤X) (hf:FrX X wr w'):Mid R K w w' S v acc n ks:=
 ⟨h.ms.frx hS (h.ms.ne hX hT) hf,h.kn.frx hf (hX.know h.kn),h.fr.far hf hK,h.hR,h.hK⟩
theorem Mid.know {R K:Nat} {w wr w':World} {S:Nat→Prop} {v:Value} {acc:List (List UInt8 × JV)} {n n':Nat} {ks ks':List (List UInt8)} (h:Mid R K w wr S v acc n ks) (hf:FrX K wr w') (hk:Known w' K n' ks'):Mid R K w w' S v acc n' ks':=
 ⟨h.ms.frx (fun hs=>by have:=(h.ms.1 K hs).1;omega) (fun e=>by have:=(h.ms.own e).1;omega) hf,hk,h.fr.far hf h.hK,h.hR,h.hK⟩
theorem Rdr.far {w w':World} {R e:Nat} {ts:List Scn.Tok} {p X:Nat} (h:Rdr w R e ts p) (hf:FrX X w w') (hX:R<X):Rdr w' R e ts p:=by
 have h':w.grownBy w' (some X):=hf
 exact h.keepB ⟨h'.os,h'.tape,h'.output,h'.size,fun k hk=>hf.blk (by have:=h.lt;omega) (by omega)⟩
structure LM (R e d K:Nat) (w wr:World) (r:Rd.R) (f:Nat) (l:List Scn.Tok) (p:Nat) (v:Value) (acc:List (List UInt8 × JV)):Prop where
 run:Rd.rdM f e l d p acc=r
 rd:Rdr wr R e l p
 p8:p≤8192
 tok:∀ x∈l,TokOk x
 len:acc.length≤p
 mid:∃ S ks,(∀ s,s∈ks↔s∈acc.map (·.1))∧Mid R K w wr S v acc acc.length ks
theorem box4 {w:World} {X:Nat} {a b c d:Value} {T:TypeId} (h:Blk w X #[a,b,c,d] T):(w.cell? ⟨X,0,none⟩=some a∧w.cell? ⟨X,1,none⟩=some b∧w.cell? ⟨X,2,none⟩=some c∧w.cell? ⟨X,3,none⟩=some d)∧w.frozen? ⟨X,0,none⟩=false∧w.frozen? ⟨X,1,none⟩=false∧w.frozen? ⟨X,2,none⟩=false∧w.frozen? ⟨X,3,none⟩=false:=
 ⟨⟨h.cell 0,h.cell 1,h.cell 2,h.cell 3⟩,h.free 0,h.free 1,h.free 2,h.free 3⟩
theorem set4 {w:World} {X:Nat} {a b c d a' b' c' d':Value} {T:TypeId} (h:Blk w X #[a,b,c,d] T):
  Blk ((((w.setCell ⟨X,0,none⟩ a').setCell ⟨X,1,none⟩ b').setCell ⟨X,2,none⟩ c').setCell ⟨X,3,none⟩ d') X #[a',b',c',d'] T∧FrX X w ((((w.setCell ⟨X,0,none⟩ a').setCell ⟨X,1,none⟩ b').setCell ⟨X,2,none⟩ c').setCell ⟨X,3,none⟩ d'):=
 ⟨(((h.set 0 a').set 1 b').set 2 c').set 3 d',((((FrX.refl X w).setCell rfl a').setCell rfl b').setCell rfl c').setCell rfl d'⟩
theorem members_is (f:Nat) (hV:∀ g,g<f→ValAt g) (R e:Nat) (l:List Scn.Tok) (d p:Nat) (w:World) (h:Rdr w R e l p) (hp:p≤8192) (hd:d≤16) (hl:∀ x∈l,TokOk x) (r:Rd.R)
  (hr:(if Rd.isM (Rd.next e l) 125 then Rd.R.ok (JV.mapV []) l.tail p else Rd.rdM f e l d p [])=r) (hne:r≠.out):
  Calls Tryz.prog 72 #[.pointer (some ⟨R,0,none⟩),.int .i64 (d:Nat)] w (MapP R e w r):=by
 have HR:=Lib.hid h
 have HL:=Lib.hid hl
 have hlt:Hid (R<w.heap.size):=h.lt
 by_cases hm:Rd.isM (Rd.next e l) 125=true
 ·rw [if_pos hm] at hr
  subst hr
  have HM:=Lib.hid hm
  clear hm h hl hne hV
  go_enter Tryz.func72,Tryz.ntmps72
  go_wp2_with (first
   | (go_at_call 92;refine (peek_is R e l p 125 true _ HR.out HM.out).mono ?_;rintro x w1 ⟨rfl,hf⟩;have HF1:=Lib.hid hf;clear hf)
   | (go_at_call 47;refine (next_at R e l p _ rfl _ (HR.out.keep HF1.out)).mono ?_;rintro x w2 ⟨rfl,hr2,hf⟩;have HR2:=Lib.hid hr2;have HF2:=Lib.hid hf;clear hf hr2))
  go_ret
  exact ⟨_,[],rfl,rfl,MsI.none_ _ (Nat.le_refl _),by simp,HR2.out,(FrX.of HF1.out).trans HF2.out⟩
 have hm:Rd.isM (Rd.next e l) 125=false:=by simpa using hm
 rw [hm,if_neg (by simp)] at hr
 have HM:=Lib.hid hm
 have HRR:=Lib.hid hr
 have HNE:=Lib.hid hne
 have HV:=Lib.hid hV
 have hd':(d:Int)≤16:=by omega
 clear hm h hl hne hV hr
 have hmm:=@run_makeMap Tryz.prog
 go_enter Tryz.func72,Tryz.ntmps72
 go_wp2_with (go_at_call 92;refine (peek_is R e l p 125 false _ HR.out HM.out).mono ?_;rintro x w1 ⟨rfl,hf⟩;have HF1:=Lib.hid hf;clear hf)
 go_loopg [5] f (fun m v wr=>∃ (l:List Scn.Tok) (p:Nat) (acc:List (List UInt8 × JV)),m≤f∧Hid (LM R e d w1.heap.size w wr r m l p v acc))
 case atStart=>
  refine ⟨l,p,[],Nat.le_refl _,Lib.hid ⟨HRR.out,(HR.out.keep HF1.out).keep ((Fr.refl _).alloc _),hp,HL.out,by simp,fun _=>False,[],by simp,?_,?_,?_,?_,?_⟩⟩
  ·exact ⟨fun b hb=>hb.elim,[],Mbs.none_ _ _,rfl,fun i h=>absurd h (by simp)⟩
  ·exact Known.made w1
  ·exact (FrX.of HF1.out).alloc _
  ·exact hlt.out
  ·exact HF1.out.size
 case round=>
  obtain ⟨l,p,acc,hgf,hI⟩:=hrel
  obtain ⟨m,rfl⟩:∃ m,gk=m+1:=by
   cases gk with
   | zero=>exact absurd (hI.out.run.symm.trans (by unfold Rd.rdM;rfl)) HNE.out
   | succ m=>exact ⟨m,rfl⟩
  obtain ⟨S,ks,hks,hmid⟩:=hI.out.mid
  have hrun:=hI.out.run
  rw [Rd.rdM_succ] at hrun
  have HVm:Hid (ValAt m):=HV.out m (by omega)
  obtain ⟨t,ht⟩:∃ t,Rd.next e l=t:=⟨_,rfl⟩
  rw [ht] at hrun
  have HT:=Lib.hid ht
  have HTO:Hid (TokOk t):=by show TokOk t;rw [← ht];exact next_ok hI.out.tok
  have HTL:Hid (∀ x∈l.tail,TokOk x):=tail_ok hI.out.tok
  have HMID:=Lib.hid hmid
  have HKS:=Lib.hid hks
  clear ht hks hmid
  by_cases hk:t.kind=4
  ·rw [if_neg (by simpa using hk)] at hrun
   have k4:(((t.kind:Nat):Int) != 4)=false:=by rw [bne_eq_false_iff_eq];omega
   clear hk
   by_cases hin:t.s∈acc.map (·.1)
   ·rw [if_pos hin] at hrun
    subst hrun
    have HIN:Hid (decide (t.s∈ks)=true):=decide_eq_true ((HKS.out _).2 hin)
    clear hin
    go_wp2_with (first
     | (go_at_call 48;have hm:=HM1.out;refine (wrong_at t 52 52 rfl _).mono ?_;rintro x w8 ⟨rfl,hf⟩;have HFW:=Lib.hid ((hm.fr.alloc _).fr hf);clear hf hm)
     | (go_at_call 47;refine (next_at R e l p t HT.out _ hI.out.rd).mono ?_;rintro x w2 ⟨rfl,hr1,hf⟩;have hlk:(Instr.lookup 102 (.map (some w1.heap.size)) (.string ⟨t.s.toArray⟩) false).run Tryz.prog (w2.alloc (.cells #[.int .i64 (t.kind:Nat),.int .i64 t.n,.string ⟨t.s.toArray⟩,.int .i64 (t.at_:Nat)] 88))=.ok (.bool true) (w2.alloc (.cells #[.int .i64 (t.kind:Nat),.int .i64 t.n,.string ⟨t.s.toArray⟩,.int .i64 (t.at_:Nat)] 88)):=(by rw [((HMID.out.next hf).keep ((Fr.refl w2).alloc (.cells #[.int .i64 (t.kind:Nat),.int .i64 t.n,.string ⟨t.s.toArray⟩,.int .i64 (t.at_:Nat)] 88))).kn.run t.s HTO.out.1,HIN.out]);have HR1:=Lib.hid hr1;have HM1:=Lib.hid (HMID.out.next hf);have HZ2:=Lib.hid hf.size;clear hf hr1))
    exact ⟨rfl,rfl,HFW.out⟩
   rw [if_neg hin] at hrun
   have HIN:Hid (decide (t.s∈ks)=false):=decide_eq_false (fun h=>hin ((HKS.out _).1 h))
   have hacc:Hid (acc.length<140737488355328):=by have:=hI.out.len;have:=hI.out.p8;show _<_;omega
   clear hin
   obtain ⟨t2,ht2⟩:∃ t,Rd.next e l.tail=t:=⟨_,rfl⟩
   rw [ht2] at hrun
   have HT2:=Lib.hid ht2
   clear ht2
   by_cases h58:Rd.isM t2 58=true
   case neg=>
    have h58:Rd.isM t2 58=false:=by simpa using h58
    rw [if_pos h58] at hrun
    subst hrun
    have H58:=Lib.hid h58
    clear h58
    go_wp2_with (first
     | (go_at_call 48;have hm:=HM5.out;refine (wrong_at t2 50 50 rfl _).mono ?_;rintro x w8 ⟨rfl,hf⟩;have HFW:=Lib.hid (hm.fr.fr hf);clear hf hm)
     | (go_at_call 70;have hm:=HM4.out;refine (is_is t2 58 _ false H58.out).mono ?_;rintro x w5 ⟨rfl,hf⟩;have hx:=(TB.made w4 t2).keep hf;obtain ⟨_,x0,x1,x2,x3⟩:=hx;have hf5:=((Fr.refl w4).alloc _).trans hf;have HM5:=Lib.hid (hm.keep hf5);have HB5:=Lib.hid (HB4.out.keep hf5);have HR5:=Lib.hid (HR4.out.keep hf5);clear hf hf5 hm)
     | (go_at_call 47;have hm:=HM3.out;refine (next_at R e l.tail p t2 HT2.out _ HR3.out).mono ?_;rintro x w4 ⟨rfl,hr4,hf⟩;have HR4:=Lib.hid hr4;have HM4:=Lib.hid (hm.next hf);have HB4:=Lib.hid (HB3.out.frx hf (by have:=hlt.out;have:=HMID.out.fr.size;have:=HZ2.out;omega));clear hf hr4 hm)
     | (at_mapUpdate;refine wpl_know (by rfl) (.tmp 28) (.tmp 30) (.const (.bool true)) (by rfl) w1.heap.size acc.length ks (by rfl) (HM1.out.keep ((Fr.refl w2).alloc (.cells #[.int .i64 (t.kind:Nat),.int .i64 t.n,.string ⟨t.s.toArray⟩,.int .i64 (t.at_:Nat)] 88))).kn hacc.out t.s HTO.out.1 (by rfl) (by rfl) ?_;intro w3 hk3 hg3;have hg3:FrX w1.heap.size _ w3:=hg3;have HM3:=Lib.hid ((HM1.out.keep ((Fr.refl w2).alloc (.cells #[.int .i64 (t.kind:Nat),.int .i64 t.n,.string ⟨t.s.toArray⟩,.int .i64 (t.at_:Nat)] 88))).know hg3 hk3);have HB3:=Lib.hid ((Blk.made w2 #[.int .i64 (t.kind:Nat),.int .i64 t.n,.string ⟨t.s.toArray⟩,.int .i64 (t.at_:Nat)] 88).frx hg3 (Ne.symm ((Blk.made w2 #[.int .i64 (t.kind:Nat),.int .i64 t.n,.string ⟨t.s.toArray⟩,.int .i64 (t.at_:Nat)] 88).know (HM1.out.keep ((Fr.refl w2).alloc (.cells #[.int .i64 (t.kind:Nat),.int .i64 t.n,.string ⟨t.s.toArray⟩,.int .i64 (t.at_:Nat)] 88))).kn)));have HR3:=Lib.hid ((HR1.out.keep ((Fr.refl w2).alloc (.cells #[.int .i64 (t.kind:Nat),.int .i64 t.n,.string ⟨t.s.toArray⟩,.int .i64 (t.at_:Nat)] 88))).far hg3 (Nat.lt_of_lt_of_le hlt.out HM1.out.hK));have HZ3:Hid (w2.heap.size<w3.heap.size):=HB3.out.lt;clear hk3 hg3)
     | (go_at_call 47;refine (next_at R e l p t HT.out _ hI.out.rd).mono ?_;rintro x w2 ⟨rfl,hr1,hf⟩;have hlk:(Instr.lookup 102 (.map (some w1.heap.size)) (.string ⟨t.s.toArray⟩) false).run Tryz.prog (w2.alloc (.cells #[.int .i64 (t.kind:Nat),.int .i64 t.n,.string ⟨t.s.toArray⟩,.int .i64 (t.at_:Nat)] 88))=.ok (.bool false) (w2.alloc (.cells #[.int .i64 (t.kind:Nat),.int .i64 t.n,.string ⟨t.s.toArray⟩,.int .i64 (t.at_:Nat)] 88)):=(by rw [((HMID.out.next hf).keep ((Fr.refl w2).alloc (.cells #[.int .i64 (t.kind:Nat),.int .i64 t.n,.string ⟨t.s.toArray⟩,.int .i64 (t.at_:Nat)] 88))).kn.run t.s HTO.out.1,HIN.out]);have HR1:=Lib.hid hr1;have HM1:=Lib.hid (HMID.out.next hf);have HZ2:=Lib.hid hf.size;clear hf hr1))
    exact ⟨rfl,rfl,HFW.out⟩
   rw [if_neg (by rw [h58];simp)] at hrun
   have H58:=Lib.hid h58
   clear h58
   obtain ⟨t3,ht3⟩:∃ t,Rd.next e l.tail.tail=t:=⟨_,rfl⟩
   rw [ht3] at hrun
   have HT3:=Lib.hid ht3
   have HTO3:Hid (TokOk t3):=by show TokOk t3;rw [← ht3];exact next_ok (tail_ok HTL.out)
   have HTL3:Hid (∀ x∈l.tail.tail.tail,TokOk x):=tail_ok (tail_ok HTL.out)
   have hdd:Hid (((d:Int)+1)=((d+1:Nat):Int)):=by show _=_;omega
   have hd17:Hid (d+1≤17):=by show _≤_;omega
   clear ht3
   have hv3:∃ x,Rd.rdV m e t3 l.tail.tail.tail (d+1) p=x:=⟨_,rfl⟩
   rcases hv:Rd.rdV m e t3 l.tail.tail.tail (d+1) p with _ | ⟨a,c⟩ | ⟨u,l2,p2⟩
   ·rw [hv] at hrun;exact absurd hrun.symm HNE.out
   ·rw [hv] at hrun
    simp only at hrun
    subst hrun
    have HVV:=Lib.hid hv
    clear hv hv3
    go_wp2_with (first
     | (go_at_call 46;have hm:=HM6.out;refine (HVm.out.bad HR6.out hI.out.p8 hd17.out HTO3.out HTL3.out hdd.out HVV.out).mono ?_;rintro x w7 ⟨rfl,hf⟩;have HF7:=Lib.hid (hm.fr.trans hf);clear hf hm)
     | (go_at_call 47;have hm:=HM5.out;refine (next_at R e l.tail.tail p t3 HT3.out _ HR5.out).mono ?_;rintro x w6 ⟨rfl,hr6,hf⟩;have HR6:=Lib.hid hr6;have HM6:=Lib.hid (hm.next hf);have HB6:=Lib.hid (HB5.out.frx hf (by have:=hlt.out;have:=HMID.out.fr.size;have:=HZ2.out;omega));clear hf hr6 hm)
     | (go_at_call 70;have hm:=HM4.out;refine (is_is t2 58 _ true H58.out).mono ?_;rintro x w5 ⟨rfl,hf⟩;have hx:=(TB.made w4 t2).keep hf;obtain ⟨_,x0,x1,x2,x3⟩:=hx;have hf5:=((Fr.refl w4).alloc _).trans hf;have HM5:=Lib.hid (hm.keep hf5);have HB5:=Lib.hid (HB4.out.keep hf5);have HR5:=Lib.hid (HR4.out.keep hf5);clear hf hf5 hm)
     | (go_at_call 47;have hm:=HM3.out;refine (next_at R e l.tail p t2 HT2.out _ HR3.out).mono ?_;rintro x w4 ⟨rfl,hr4,hf⟩;have HR4:=Lib.hid hr4;have HM4:=Lib.hid (hm.next hf);have HB4:=Lib.hid (HB3.out.frx hf (by have:=hlt.out;have:=HMID.out.fr.size;have:=HZ2.out;omega));clear hf hr4 hm)
     | (at_mapUpdate;refine wpl_know (by rfl) (.tmp 28) (.tmp 30) (.const (.bool true)) (by rfl) w1.heap.size acc.length ks (by rfl) (HM1.out.keep ((Fr.refl w2).alloc (.cells #[.int .i64 (t.kind:Nat),.int .i64 t.n,.string ⟨t.s.toArray⟩,.int .i64 (t.at_:Nat)] 88))).kn hacc.out t.s HTO.out.1 (by rfl) (by rfl) ?_;intro w3 hk3 hg3;have hg3:FrX w1.heap.size _ w3:=hg3;have HM3:=Lib.hid ((HM1.out.keep ((Fr.refl w2).alloc (.cells #[.int .i64 (t.kind:Nat),.int .i64 t.n,.string ⟨t.s.toArray⟩,.int .i64 (t.at_:Nat)] 88))).know hg3 hk3);have HB3:=Lib.hid ((Blk.made w2 #[.int .i64 (t.kind:Nat),.int .i64 t.n,.string ⟨t.s.toArray⟩,.int .i64 (t.at_:Nat)] 88).frx hg3 (Ne.symm ((Blk.made w2 #[.int .i64 (t.kind:Nat),.int .i64 t.n,.string ⟨t.s.toArray⟩,.int .i64 (t.at_:Nat)] 88).know (HM1.out.keep ((Fr.refl w2).alloc (.cells #[.int .i64 (t.kind:Nat),.int .i64 t.n,.string ⟨t.s.toArray⟩,.int .i64 (t.at_:Nat)] 88))).kn)));have HR3:=Lib.hid ((HR1.out.keep ((Fr.refl w2).alloc (.cells #[.int .i64 (t.kind:Nat),.int .i64 t.n,.string ⟨t.s.toArray⟩,.int .i64 (t.at_:Nat)] 88))).far hg3 (Nat.lt_of_lt_of_le hlt.out HM1.out.hK));have HZ3:Hid (w2.heap.size<w3.heap.size):=HB3.out.lt;clear hk3 hg3)
     | (go_at_call 47;refine (next_at R e l p t HT.out _ hI.out.rd).mono ?_;rintro x w2 ⟨rfl,hr1,hf⟩;have hlk:(Instr.lookup 102 (.map (some w1.heap.size)) (.string ⟨t.s.toArray⟩) false).run Tryz.prog (w2.alloc (.cells #[.int .i64 (t.kind:Nat),.int .i64 t.n,.string ⟨t.s.toArray⟩,.int .i64 (t.at_:Nat)] 88))=.ok (.bool false) (w2.alloc (.cells #[.int .i64 (t.kind:Nat),.int .i64 t.n,.string ⟨t.s.toArray⟩,.int .i64 (t.at_:Nat)] 88)):=(by rw [((HMID.out.next hf).keep ((Fr.refl w2).alloc (.cells #[.int .i64 (t.kind:Nat),.int .i64 t.n,.string ⟨t.s.toArray⟩,.int .i64 (t.at_:Nat)] 88))).kn.run t.s HTO.out.1,HIN.out]);have HR1:=Lib.hid hr1;have HM1:=Lib.hid (HMID.out.next hf);have HZ2:=Lib.hid hf.size;clear hf hr1))
    exact ⟨rfl,rfl,HF7.out⟩
   rw [hv] at hrun
   simp only at hrun
   have HVV:=Lib.hid hv
   have hs:=(Rd.rd_sorts m).1 _ _ _ _ _ _ _ _ hv
   have hp2:Hid (p+1≤p2∧p2≤8192):=by
    have:=Rd.nv_pos u
    show _∧_;omega
   have HTL4:Hid (∀ x∈l2,TokOk x):=by
    have:=(Rd.rd_toks m).1 _ _ _ _ _ _ _ _ hv
    intro x hx;exact HTL3.out x (this x hx)
   clear hv hv3 hs
   obtain ⟨t4,ht4⟩:∃ t,Rd.next e l2=t:=⟨_,rfl⟩
   rw [ht4] at hrun
   have HT4:=Lib.hid ht4
   clear ht4
   have hlen:Hid ((acc.length+1)*96≤140737488355328):=by have:=hI.out.len;have:=hI.out.p8;show _≤_;omega
   have five_agg:∀ {k n:Int} {s:ByteArray} {A:Option Addr} {a b:Nat} {A':Option Addr} {a' b':Nat},Five (.agg #[.int .i64 k,.int .i64 n,.string s,.slice A a b,.slice A' a' b']):=fun {_ _ _ _ _ _ _ _ _}=>⟨_,_,_,_,_,rfl,rfl,rfl,rfl,rfl,rfl⟩
   by_cases h125:Rd.isM t4 125=true
   ·rw [if_pos h125] at hrun
    subst hrun
    have H125:=Lib.hid h125
    clear h125
    go_wp2_with (first
     | (go_at_call 70;have hm:=HM9.out;refine (is_is t4 125 _ true H125.out).mono ?_;rintro x w10 ⟨rfl,hf⟩;have hs:=set4 (a':=.int .i64 (t4.kind:Nat)) (b':=.int .i64 t4.n) (c':=.string ⟨t4.s.toArray⟩) (d':=.int .i64 (t4.at_:Nat)) HB9.out;have hb10:=hs.1.keep hf;obtain ⟨⟨q0,q1,q2,q3⟩,_⟩:=box4 hb10;have HB10:=Lib.hid hb10;have HM10:=Lib.hid ((hm.box HB9.out (by decide) (fun hh=>Or.elim hh (fun hh=>(by have:=(HMID.out.ms.1 _ hh).2.1;have:=HZ2.out;omega)) (fun hh=>(by have:=hh.1;have:=HB6.out.lt;omega))) (Nat.le_trans HMID.out.fr.size HZ2.out) hs.2).keep hf);have HR10:=Lib.hid ((HR9.out.far hs.2 (by have:=hlt.out;have:=HMID.out.fr.size;have:=HZ2.out;omega)).keep hf);clear hf hm hs hb10)
     | (go_at_call 47;have hm:=HM8.out;refine (next_at R e l2 p2 t4 HT4.out _ HR8.out).mono ?_;rintro x w9 ⟨rfl,hr9,hf⟩;have HR9:=Lib.hid hr9;have HM9:=Lib.hid (hm.next hf);have hb9:=HB8.out.frx hf (by have:=hlt.out;have:=HMID.out.fr.size;have:=HZ2.out;omega);obtain ⟨⟨z0,z1,z2,z3⟩,g0,g1,g2,g3⟩:=box4 hb9;have HB9:=Lib.hid hb9;clear hf hr9 hm hb9)
     | (at_builtin;have hm:=HM7.out;refine wpl_mS rfl (.tmp 44) (.tmp 49) rfl S (w1.heap.size+1) (Nat.le_trans hm.kn.lt (by simp)) u5 acc rfl (hm.ms.keep ((Fr.refl w7).alloc _)) t.s HTO.out.1 u #[.int .i64 k3,.int .i64 n3,.string s3,.slice A3 a3 b3,.slice A3' a3' b3'] rfl five_agg (Be w6.heap.size w7.heap.size) (fun b hb=>⟨Nat.le_trans HM6.out.kn.lt hb.1,Nat.lt_of_lt_of_le hb.2 (by simp),fun e=>by have:=(HM6.out.ms.own e).2.1;have:=hb.1;omega⟩) (HU7.out.map (fun _ h=>h) (fun b o hb=>((Fr.refl w7).alloc _).cell hb.2)) rfl (by simp) hlen.out ?_;intro v8 w8 hv8 hb8 hk8;have hfa:=(Fr.refl w7).alloc (.cells #[.int .i64 k3,.int .i64 n3,.string s3,.slice A3 a3 b3,.slice A3' a3' b3'] 25);have HR8:=Lib.hid ((HR7.out.keep hfa).keepB (Below.mono hb8 (Nat.le_succ_of_le (Nat.lt_of_lt_of_le hlt.out hm.hK))));have HB8:Hid (Blk w8 w2.heap.size _ _):=(hk8 _ (HB7.out.keep hfa).lt (hm.ms.ne HB7.out (by decide))).trans (HB7.out.keep hfa);have HM8:Hid (Mid R w1.heap.size w w8 _ v8 _ acc.length.succ _):=⟨hv8,(hm.kn.keep hfa).blk (hk8 _ (hm.kn.keep hfa).lt (fun e=>by have:=(hm.ms.own e).1;omega)),(hm.fr.fr hfa).beyond hb8 (Nat.le_succ_of_le hm.hK),hm.hR,hm.hK⟩;clear hv8 hb8 hk8 hm hfa)
     | (go_at_call 46;have hm:=HM6.out;refine (HVm.out.ok HR6.out hI.out.p8 hd17.out HTO3.out HTL3.out hdd.out HVV.out).mono ?_;rintro x w7 ⟨k3,n3,s3,A3,a3,b3,A3',a3',b3',rfl,hin,hr7,hf⟩;have HM7:=Lib.hid (hm.next hf);have hb7:=HB6.out.frx hf (by have:=hlt.out;have:=HMID.out.fr.size;have:=HZ2.out;omega);have x72:∀ ob:Obj,(w7.alloc ob).cell? ⟨w2.heap.size,2,none⟩=some (.string ⟨t.s.toArray⟩):=fun ob=>(hb7.keep ((Fr.refl w7).alloc ob)).cell 2;have HB7:=Lib.hid hb7;have HU7:=Lib.hid hin;have HR7:=Lib.hid hr7;have HZ7:=Lib.hid hf.size;clear hf hm hin hr7 hb7)
     | (go_at_call 47;have hm:=HM5.out;refine (next_at R e l.tail.tail p t3 HT3.out _ HR5.out).mono ?_;rintro x w6 ⟨rfl,hr6,hf⟩;have HR6:=Lib.hid hr6;have HM6:=Lib.hid (hm.next hf);have HB6:=Lib.hid (HB5.out.frx hf (by have:=hlt.out;have:=HMID.out.fr.size;have:=HZ2.out;omega));clear hf hr6 hm)
     | (go_at_call 70;have hm:=HM4.out;refine (is_is t2 58 _ true H58.out).mono ?_;rintro x w5 ⟨rfl,hf⟩;have hx:=(TB.made w4 t2).keep hf;obtain ⟨_,x0,x1,x2,x3⟩:=hx;have hf5:=((Fr.refl w4).alloc _).trans hf;have HM5:=Lib.hid (hm.keep hf5);have HB5:=Lib.hid (HB4.out.keep hf5);have HR5:=Lib.hid (HR4.out.keep hf5);clear hf hf5 hm)
     | (go_at_call 47;have hm:=HM3.out;refine (next_at R e l.tail p t2 HT2.out _ HR3.out).mono ?_;rintro x w4 ⟨rfl,hr4,hf⟩;have HR4:=Lib.hid hr4;have HM4:=Lib.hid (hm.next hf);have HB4:=Lib.hid (HB3.out.frx hf (by have:=hlt.out;have:=HMID.out.fr.size;have:=HZ2.out;omega));clear hf hr4 hm)
     | (at_mapUpdate;refine wpl_know (by rfl) (.tmp 28) (.tmp 30) (.const (.bool true)) (by rfl) w1.heap.size acc.length ks (by rfl) (HM1.out.keep ((Fr.refl w2).alloc (.cells #[.int .i64 (t.kind:Nat),.int .i64 t.n,.string ⟨t.s.toArray⟩,.int .i64 (t.at_:Nat)] 88))).kn hacc.out t.s HTO.out.1 (by rfl) (by rfl) ?_;intro w3 hk3 hg3;have hg3:FrX w1.heap.size _ w3:=hg3;have HM3:=Lib.hid ((HM1.out.keep ((Fr.refl w2).alloc (.cells #[.int .i64 (t.kind:Nat),.int .i64 t.n,.string ⟨t.s.toArray⟩,.int .i64 (t.at_:Nat)] 88))).know hg3 hk3);have HB3:=Lib.hid ((Blk.made w2 #[.int .i64 (t.kind:Nat),.int .i64 t.n,.string ⟨t.s.toArray⟩,.int .i64 (t.at_:Nat)] 88).frx hg3 (Ne.symm ((Blk.made w2 #[.int .i64 (t.kind:Nat),.int .i64 t.n,.string ⟨t.s.toArray⟩,.int .i64 (t.at_:Nat)] 88).know (HM1.out.keep ((Fr.refl w2).alloc (.cells #[.int .i64 (t.kind:Nat),.int .i64 t.n,.string ⟨t.s.toArray⟩,.int .i64 (t.at_:Nat)] 88))).kn)));have HR3:=Lib.hid ((HR1.out.keep ((Fr.refl w2).alloc (.cells #[.int .i64 (t.kind:Nat),.int .i64 t.n,.string ⟨t.s.toArray⟩,.int .i64 (t.at_:Nat)] 88))).far hg3 (Nat.lt_of_lt_of_le hlt.out HM1.out.hK));have HZ3:Hid (w2.heap.size<w3.heap.size):=HB3.out.lt;clear hk3 hg3)
     | (go_at_call 47;refine (next_at R e l p t HT.out _ hI.out.rd).mono ?_;rintro x w2 ⟨rfl,hr1,hf⟩;have hlk:(Instr.lookup 102 (.map (some w1.heap.size)) (.string ⟨t.s.toArray⟩) false).run Tryz.prog (w2.alloc (.cells #[.int .i64 (t.kind:Nat),.int .i64 t.n,.string ⟨t.s.toArray⟩,.int .i64 (t.at_:Nat)] 88))=.ok (.bool false) (w2.alloc (.cells #[.int .i64 (t.kind:Nat),.int .i64 t.n,.string ⟨t.s.toArray⟩,.int .i64 (t.at_:Nat)] 88)):=(by rw [((HMID.out.next hf).keep ((Fr.refl w2).alloc (.cells #[.int .i64 (t.kind:Nat),.int .i64 t.n,.string ⟨t.s.toArray⟩,.int .i64 (t.at_:Nat)] 88))).kn.run t.s HTO.out.1,HIN.out]);have HR1:=Lib.hid hr1;have HM1:=Lib.hid (HMID.out.next hf);have HZ2:=Lib.hid hf.size;clear hf hr1))
    go_ret
    exact ⟨v8,acc++[(t.s,u)],rfl,rfl,HM10.out.ms.toI _ (Nat.le_succ_of_le HM10.out.hK),by have:=hI.out.len;have:=hp2.out;simp;omega,HR10.out,HM10.out.fr⟩
   have h125:Rd.isM t4 125=false:=by simpa using h125
   rw [h125,if_neg (by simp)] at hrun
   have H125:=Lib.hid h125
   clear h125
   by_cases h44:Rd.isM t4 44=true
   ·rw [if_pos h44] at hrun
    have H44:=Lib.hid h44
    have HRUN:=Lib.hid hrun
    clear h44 hrun
    go_wp2_with (first
     | (go_at_call 70;have hm:=HM10.out;refine (is_is t4 44 _ true H44.out).mono ?_;rintro x w11 ⟨rfl,hf⟩;have HM11:=Lib.hid (hm.keep hf);have HR11:=Lib.hid (HR10.out.keep hf);have hb11:=HB10.out.keep hf;obtain ⟨⟨q0',q1',q2',q3'⟩,_⟩:=box4 hb11;clear hf hm hb11)
     | (go_at_call 70;have hm:=HM9.out;refine (is_is t4 125 _ false H125.out).mono ?_;rintro x w10 ⟨rfl,hf⟩;have hs:=set4 (a':=.int .i64 (t4.kind:Nat)) (b':=.int .i64 t4.n) (c':=.string ⟨t4.s.toArray⟩) (d':=.int .i64 (t4.at_:Nat)) HB9.out;have hb10:=hs.1.keep hf;obtain ⟨⟨q0,q1,q2,q3⟩,_⟩:=box4 hb10;have HB10:=Lib.hid hb10;have HM10:=Lib.hid ((hm.box HB9.out (by decide) (fun hh=>Or.elim hh (fun hh=>(by have:=(HMID.out.ms.1 _ hh).2.1;have:=HZ2.out;omega)) (fun hh=>(by have:=hh.1;have:=HB6.out.lt;omega))) (Nat.le_trans HMID.out.fr.size HZ2.out) hs.2).keep hf);have HR10:=Lib.hid ((HR9.out.far hs.2 (by have:=hlt.out;have:=HMID.out.fr.size;have:=HZ2.out;omega)).keep hf);clear hf hm hs hb10)
     | (go_at_call 47;have hm:=HM8.out;refine (next_at R e l2 p2 t4 HT4.out _ HR8.out).mono ?_;rintro x w9 ⟨rfl,hr9,hf⟩;have HR9:=Lib.hid hr9;have HM9:=Lib.hid (hm.next hf);have hb9:=HB8.out.frx hf (by have:=hlt.out;have:=HMID.out.fr.size;have:=HZ2.out;omega);obtain ⟨⟨z0,z1,z2,z3⟩,g0,g1,g2,g3⟩:=box4 hb9;have HB9:=Lib.hid hb9;clear hf hr9 hm hb9)
     | (at_builtin;have hm:=HM7.out;refine wpl_mS rfl (.tmp 44) (.tmp 49) rfl S (w1.heap.size+1) (Nat.le_trans hm.kn.lt (by simp)) u5 acc rfl (hm.ms.keep ((Fr.refl w7).alloc _)) t.s HTO.out.1 u #[.int .i64 k3,.int .i64 n3,.string s3,.slice A3 a3 b3,.slice A3' a3' b3'] rfl five_agg (Be w6.heap.size w7.heap.size) (fun b hb=>⟨Nat.le_trans HM6.out.kn.lt hb.1,Nat.lt_of_lt_of_le hb.2 (by simp),fun e=>by have:=(HM6.out.ms.own e).2.1;have:=hb.1;omega⟩) (HU7.out.map (fun _ h=>h) (fun b o hb=>((Fr.refl w7).alloc _).cell hb.2)) rfl (by simp) hlen.out ?_;intro v8 w8 hv8 hb8 hk8;have hfa:=(Fr.refl w7).alloc (.cells #[.int .i64 k3,.int .i64 n3,.string s3,.slice A3 a3 b3,.slice A3' a3' b3'] 25);have HR8:=Lib.hid ((HR7.out.keep hfa).keepB (Below.mono hb8 (Nat.le_succ_of_le (Nat.lt_of_lt_of_le hlt.out hm.hK))));have HB8:Hid (Blk w8 w2.heap.size _ _):=(hk8 _ (HB7.out.keep hfa).lt (hm.ms.ne HB7.out (by decide))).trans (HB7.out.keep hfa);have HM8:Hid (Mid R w1.heap.size w w8 _ v8 _ acc.length.succ _):=⟨hv8,(hm.kn.keep hfa).blk (hk8 _ (hm.kn.keep hfa).lt (fun e=>by have:=(hm.ms.own e).1;omega)),(hm.fr.fr hfa).beyond hb8 (Nat.le_succ_of_le hm.hK),hm.hR,hm.hK⟩;clear hv8 hb8 hk8 hm hfa)
     | (go_at_call 46;have hm:=HM6.out;refine (HVm.out.ok HR6.out hI.out.p8 hd17.out HTO3.out HTL3.out hdd.out HVV.out).mono ?_;rintro x w7 ⟨k3,n3,s3,A3,a3,b3,A3',a3',b3',rfl,hin,hr7,hf⟩;have HM7:=Lib.hid (hm.next hf);have hb7:=HB6.out.frx hf (by have:=hlt.out;have:=HMID.out.fr.size;have:=HZ2.out;omega);have x72:∀ ob:Obj,(w7.alloc ob).cell? ⟨w2.heap.size,2,none⟩=some (.string ⟨t.s.toArray⟩):=fun ob=>(hb7.keep ((Fr.refl w7).alloc ob)).cell 2;have HB7:=Lib.hid hb7;have HU7:=Lib.hid hin;have HR7:=Lib.hid hr7;have HZ7:=Lib.hid hf.size;clear hf hm hin hr7 hb7)
     | (go_at_call 47;have hm:=HM5.out;refine (next_at R e l.tail.tail p t3 HT3.out _ HR5.out).mono ?_;rintro x w6 ⟨rfl,hr6,hf⟩;have HR6:=Lib.hid hr6;have HM6:=Lib.hid (hm.next hf);have HB6:=Lib.hid (HB5.out.frx hf (by have:=hlt.out;have:=HMID.out.fr.size;have:=HZ2.out;omega));clear hf hr6 hm)
     | (go_at_call 70;have hm:=HM4.out;refine (is_is t2 58 _ true H58.out).mono ?_;rintro x w5 ⟨rfl,hf⟩;have hx:=(TB.made w4 t2).keep hf;obtain ⟨_,x0,x1,x2,x3⟩:=hx;have hf5:=((Fr.refl w4).alloc _).trans hf;have HM5:=Lib.hid (hm.keep hf5);have HB5:=Lib.hid (HB4.out.keep hf5);have HR5:=Lib.hid (HR4.out.keep hf5);clear hf hf5 hm)
     | (go_at_call 47;have hm:=HM3.out;refine (next_at R e l.tail p t2 HT2.out _ HR3.out).mono ?_;rintro x w4 ⟨rfl,hr4,hf⟩;have HR4:=Lib.hid hr4;have HM4:=Lib.hid (hm.next hf);have HB4:=Lib.hid (HB3.out.frx hf (by have:=hlt.out;have:=HMID.out.fr.size;have:=HZ2.out;omega));clear hf hr4 hm)
     | (at_mapUpdate;refine wpl_know (by rfl) (.tmp 28) (.tmp 30) (.const (.bool true)) (by rfl) w1.heap.size acc.length ks (by rfl) (HM1.out.keep ((Fr.refl w2).alloc (.cells #[.int .i64 (t.kind:Nat),.int .i64 t.n,.string ⟨t.s.toArray⟩,.int .i64 (t.at_:Nat)] 88))).kn hacc.out t.s HTO.out.1 (by rfl) (by rfl) ?_;intro w3 hk3 hg3;have hg3:FrX w1.heap.size _ w3:=hg3;have HM3:=Lib.hid ((HM1.out.keep ((Fr.refl w2).alloc (.cells #[.int .i64 (t.kind:Nat),.int .i64 t.n,.string ⟨t.s.toArray⟩,.int .i64 (t.at_:Nat)] 88))).know hg3 hk3);have HB3:=Lib.hid ((Blk.made w2 #[.int .i64 (t.kind:Nat),.int .i64 t.n,.string ⟨t.s.toArray⟩,.int .i64 (t.at_:Nat)] 88).frx hg3 (Ne.symm ((Blk.made w2 #[.int .i64 (t.kind:Nat),.int .i64 t.n,.string ⟨t.s.toArray⟩,.int .i64 (t.at_:Nat)] 88).know (HM1.out.keep ((Fr.refl w2).alloc (.cells #[.int .i64 (t.kind:Nat),.int .i64 t.n,.string ⟨t.s.toArray⟩,.int .i64 (t.at_:Nat)] 88))).kn)));have HR3:=Lib.hid ((HR1.out.keep ((Fr.refl w2).alloc (.cells #[.int .i64 (t.kind:Nat),.int .i64 t.n,.string ⟨t.s.toArray⟩,.int .i64 (t.at_:Nat)] 88))).far hg3 (Nat.lt_of_lt_of_le hlt.out HM1.out.hK));have HZ3:Hid (w2.heap.size<w3.heap.size):=HB3.out.lt;clear hk3 hg3)
     | (go_at_call 47;refine (next_at R e l p t HT.out _ hI.out.rd).mono ?_;rintro x w2 ⟨rfl,hr1,hf⟩;have hlk:(Instr.lookup 102 (.map (some w1.heap.size)) (.string ⟨t.s.toArray⟩) false).run Tryz.prog (w2.alloc (.cells #[.int .i64 (t.kind:Nat),.int .i64 t.n,.string ⟨t.s.toArray⟩,.int .i64 (t.at_:Nat)] 88))=.ok (.bool false) (w2.alloc (.cells #[.int .i64 (t.kind:Nat),.int .i64 t.n,.string ⟨t.s.toArray⟩,.int .i64 (t.at_:Nat)] 88)):=(by rw [((HMID.out.next hf).keep ((Fr.refl w2).alloc (.cells #[.int .i64 (t.kind:Nat),.int .i64 t.n,.string ⟨t.s.toArray⟩,.int .i64 (t.at_:Nat)] 88))).kn.run t.s HTO.out.1,HIN.out]);have HR1:=Lib.hid hr1;have HM1:=Lib.hid (HMID.out.next hf);have HZ2:=Lib.hid hf.size;clear hf hr1))
    go_roundg m
    case measure=>omega
    case rel=>
     refine ⟨l2.tail,p2,acc++[(t.s,u)],by omega,Lib.hid ⟨HRUN.out,HR11.out,hp2.out.2,tail_ok HTL4.out,by have:=hI.out.len;have:=hp2.out;simp;omega,fun b=>S b∨Be w6.heap.size w7.heap.size b,t.s::ks,fun s=>?_,?_⟩⟩
     ·have:=HKS.out s
      simp only [List.mem_cons,this,List.map_append,List.mem_append,List.map_cons,List.map_nil,List.not_mem_nil,or_false]
      exact ⟨fun h=>h.symm,fun h=>h.symm⟩
     ·rw [List.length_append];exact HM11.out
   ·have h44:Rd.isM t4 44=false:=by simpa using h44
    rw [h44,if_neg (by simp)] at hrun
    subst hrun
    have H44:=Lib.hid h44
    clear h44
    go_wp2_with (first
     | (go_at_call 48;have hm:=HM11.out;refine (wrong_at t4 50 50 rfl _).mono ?_;rintro x w12 ⟨rfl,hf⟩;have HFW:=Lib.hid (hm.fr.fr hf);clear hf hm)
     | (go_at_call 70;have hm:=HM10.out;refine (is_is t4 44 _ false H44.out).mono ?_;rintro x w11 ⟨rfl,hf⟩;have HM11:=Lib.hid (hm.keep hf);have HR11:=Lib.hid (HR10.out.keep hf);have hb11:=HB10.out.keep hf;obtain ⟨⟨q0',q1',q2',q3'⟩,_⟩:=box4 hb11;clear hf hm hb11)
     | (go_at_call 70;have hm:=HM9.out;refine (is_is t4 125 _ false H125.out).mono ?_;rintro x w10 ⟨rfl,hf⟩;have hs:=set4 (a':=.int .i64 (t4.kind:Nat)) (b':=.int .i64 t4.n) (c':=.string ⟨t4.s.toArray⟩) (d':=.int .i64 (t4.at_:Nat)) HB9.out;have hb10:=hs.1.keep hf;obtain ⟨⟨q0,q1,q2,q3⟩,_⟩:=box4 hb10;have HB10:=Lib.hid hb10;have HM10:=Lib.hid ((hm.box HB9.out (by decide) (fun hh=>Or.elim hh (fun hh=>(by have:=(HMID.out.ms.1 _ hh).2.1;have:=HZ2.out;omega)) (fun hh=>(by have:=hh.1;have:=HB6.out.lt;omega))) (Nat.le_trans HMID.out.fr.size HZ2.out) hs.2).keep hf);have HR10:=Lib.hid ((HR9.out.far hs.2 (by have:=hlt.out;have:=HMID.out.fr.size;have:=HZ2.out;omega)).keep hf);clear hf hm hs hb10)
     | (go_at_call 47;have hm:=HM8.out;refine (next_at R e l2 p2 t4 HT4.out _ HR8.out).mono ?_;rintro x w9 ⟨rfl,hr9,hf⟩;have HR9:=Lib.hid hr9;have HM9:=Lib.hid (hm.next hf);have hb9:=HB8.out.frx hf (by have:=hlt.out;have:=HMID.out.fr.size;have:=HZ2.out;omega);obtain ⟨⟨z0,z1,z2,z3⟩,g0,g1,g2,g3⟩:=box4 hb9;have HB9:=Lib.hid hb9;clear hf hr9 hm hb9)
     | (at_builtin;have hm:=HM7.out;refine wpl_mS rfl (.tmp 44) (.tmp 49) rfl S (w1.heap.size+1) (Nat.le_trans hm.kn.lt (by simp)) u5 acc rfl (hm.ms.keep ((Fr.refl w7).alloc _)) t.s HTO.out.1 u #[.int .i64 k3,.int .i64 n3,.string s3,.slice A3 a3 b3,.slice A3' a3' b3'] rfl five_agg (Be w6.heap.size w7.heap.size) (fun b hb=>⟨Nat.le_trans HM6.out.kn.lt hb.1,Nat.lt_of_lt_of_le hb.2 (by simp),fun e=>by have:=(HM6.out.ms.own e).2.1;have:=hb.1;omega⟩) (HU7.out.map (fun _ h=>h) (fun b o hb=>((Fr.refl w7).alloc _).cell hb.2)) rfl (by simp) hlen.out ?_;intro v8 w8 hv8 hb8 hk8;have hfa:=(Fr.refl w7).alloc (.cells #[.int .i64 k3,.int .i64 n3,.string s3,.slice A3 a3 b3,.slice A3' a3' b3'] 25);have HR8:=Lib.hid ((HR7.out.keep hfa).keepB (Below.mono hb8 (Nat.le_succ_of_le (Nat.lt_of_lt_of_le hlt.out hm.hK))));have HB8:Hid (Blk w8 w2.heap.size _ _):=(hk8 _ (HB7.out.keep hfa).lt (hm.ms.ne HB7.out (by decide))).trans (HB7.out.keep hfa);have HM8:Hid (Mid R w1.heap.size w w8 _ v8 _ acc.length.succ _):=⟨hv8,(hm.kn.keep hfa).blk (hk8 _ (hm.kn.keep hfa).lt (fun e=>by have:=(hm.ms.own e).1;omega)),(hm.fr.fr hfa).beyond hb8 (Nat.le_succ_of_le hm.hK),hm.hR,hm.hK⟩;clear hv8 hb8 hk8 hm hfa)
     | (go_at_call 46;have hm:=HM6.out;refine (HVm.out.ok HR6.out hI.out.p8 hd17.out HTO3.out HTL3.out hdd.out HVV.out).mono ?_;rintro x w7 ⟨k3,n3,s3,A3,a3,b3,A3',a3',b3',rfl,hin,hr7,hf⟩;have HM7:=Lib.hid (hm.next hf);have hb7:=HB6.out.frx hf (by have:=hlt.out;have:=HMID.out.fr.size;have:=HZ2.out;omega);have x72:∀ ob:Obj,(w7.alloc ob).cell? ⟨w2.heap.size,2,none⟩=some (.string ⟨t.s.toArray⟩):=fun ob=>(hb7.keep ((Fr.refl w7).alloc ob)).cell 2;have HB7:=Lib.hid hb7;have HU7:=Lib.hid hin;have HR7:=Lib.hid hr7;have HZ7:=Lib.hid hf.size;clear hf hm hin hr7 hb7)
     | (go_at_call 47;have hm:=HM5.out;refine (next_at R e l.tail.tail p t3 HT3.out _ HR5.out).mono ?_;rintro x w6 ⟨rfl,hr6,hf⟩;have HR6:=Lib.hid hr6;have HM6:=Lib.hid (hm.next hf);have HB6:=Lib.hid (HB5.out.frx hf (by have:=hlt.out;have:=HMID.out.fr.size;have:=HZ2.out;omega));clear hf hr6 hm)
     | (go_at_call 70;have hm:=HM4.out;refine (is_is t2 58 _ true H58.out).mono ?_;rintro x w5 ⟨rfl,hf⟩;have hx:=(TB.made w4 t2).keep hf;obtain ⟨_,x0,x1,x2,x3⟩:=hx;have hf5:=((Fr.refl w4).alloc _).trans hf;have HM5:=Lib.hid (hm.keep hf5);have HB5:=Lib.hid (HB4.out.keep hf5);have HR5:=Lib.hid (HR4.out.keep hf5);clear hf hf5 hm)
     | (go_at_call 47;have hm:=HM3.out;refine (next_at R e l.tail p t2 HT2.out _ HR3.out).mono ?_;rintro x w4 ⟨rfl,hr4,hf⟩;have HR4:=Lib.hid hr4;have HM4:=Lib.hid (hm.next hf);have HB4:=Lib.hid (HB3.out.frx hf (by have:=hlt.out;have:=HMID.out.fr.size;have:=HZ2.out;omega));clear hf hr4 hm)
     | (at_mapUpdate;refine wpl_know (by rfl) (.tmp 28) (.tmp 30) (.const (.bool true)) (by rfl) w1.heap.size acc.length ks (by rfl) (HM1.out.keep ((Fr.refl w2).alloc (.cells #[.int .i64 (t.kind:Nat),.int .i64 t.n,.string ⟨t.s.toArray⟩,.int .i64 (t.at_:Nat)] 88))).kn hacc.out t.s HTO.out.1 (by rfl) (by rfl) ?_;intro w3 hk3 hg3;have hg3:FrX w1.heap.size _ w3:=hg3;have HM3:=Lib.hid ((HM1.out.keep ((Fr.refl w2).alloc (.cells #[.int .i64 (t.kind:Nat),.int .i64 t.n,.string ⟨t.s.toArray⟩,.int .i64 (t.at_:Nat)] 88))).know hg3 hk3);have HB3:=Lib.hid ((Blk.made w2 #[.int .i64 (t.kind:Nat),.int .i64 t.n,.string ⟨t.s.toArray⟩,.int .i64 (t.at_:Nat)] 88).frx hg3 (Ne.symm ((Blk.made w2 #[.int .i64 (t.kind:Nat),.int .i64 t.n,.string ⟨t.s.toArray⟩,.int .i64 (t.at_:Nat)] 88).know (HM1.out.keep ((Fr.refl w2).alloc (.cells #[.int .i64 (t.kind:Nat),.int .i64 t.n,.string ⟨t.s.toArray⟩,.int .i64 (t.at_:Nat)] 88))).kn)));have HR3:=Lib.hid ((HR1.out.keep ((Fr.refl w2).alloc (.cells #[.int .i64 (t.kind:Nat),.int .i64 t.n,.string ⟨t.s.toArray⟩,.int .i64 (t.at_:Nat)] 88))).far hg3 (Nat.lt_of_lt_of_le hlt.out HM1.out.hK));have HZ3:Hid (w2.heap.size<w3.heap.size):=HB3.out.lt;clear hk3 hg3)
     | (go_at_call 47;refine (next_at R e l p t HT.out _ hI.out.rd).mono ?_;rintro x w2 ⟨rfl,hr1,hf⟩;have hlk:(Instr.lookup 102 (.map (some w1.heap.size)) (.string ⟨t.s.toArray⟩) false).run Tryz.prog (w2.alloc (.cells #[.int .i64 (t.kind:Nat),.int .i64 t.n,.string ⟨t.s.toArray⟩,.int .i64 (t.at_:Nat)] 88))=.ok (.bool false) (w2.alloc (.cells #[.int .i64 (t.kind:Nat),.int .i64 t.n,.string ⟨t.s.toArray⟩,.int .i64 (t.at_:Nat)] 88)):=(by rw [((HMID.out.next hf).keep ((Fr.refl w2).alloc (.cells #[.int .i64 (t.kind:Nat),.int .i64 t.n,.string ⟨t.s.toArray⟩,.int .i64 (t.at_:Nat)] 88))).kn.run t.s HTO.out.1,HIN.out]);have HR1:=Lib.hid hr1;have HM1:=Lib.hid (HMID.out.next hf);have HZ2:=Lib.hid hf.size;clear hf hr1))
    exact ⟨rfl,rfl,HFW.out⟩
  ·rw [if_pos hk] at hrun
   subst hrun
   have k4:(((t.kind:Nat):Int) != 4)=true:=by rw [bne_iff_ne];omega
   clear hk
   go_wp2_with (first
    | (go_at_call 48;have hm:=HM1.out;refine (wrong_at t 50 50 rfl _).mono ?_;rintro x w8 ⟨rfl,hf⟩;have HF8:=Lib.hid ((hm.fr.alloc _).fr hf);clear hf hm)
    | (go_at_call 47;refine (next_at R e l p t HT.out _ hI.out.rd).mono ?_;rintro x w2 ⟨rfl,hr1,hf⟩;have HR1:=Lib.hid hr1;have HM1:=Lib.hid (HMID.out.next hf);clear hf hr1))
   exact ⟨rfl,rfl,HF8.out⟩
end Go.Proofs.YtdhakbghdcfncaaGreatDoor
