/- The walk of the reader's value: lists and maps; so the whole of it. -/
import Derived.Test.YtdhakbghdcfncaaGreatDoorRdb
namespace Go.Proofs.YtdhakbghdcfncaaGreatDoor
set_option maxRecDepth 100000
set_option maxHeartbeats 2000000
set_option linter.unusedVariables false
set_option linter.unusedSimpArgs false
open Go.RowKit

theorem boxz {w:World} {o:Obj} {cs:Array Value} {T:TypeId} (h:Blk ((w.alloc o).alloc (.cells cs T)) (w.alloc o).heap.size cs T):Blk ((w.alloc o).alloc (.cells cs T)) (w.heap.size+1) cs T:=by
 have e:(w.alloc o).heap.size=w.heap.size+1:=by simp
 rw [← e];exact h
theorem boxy {w:World} {o o2:Obj} {cs:Array Value} {T:TypeId} (h:Blk (((w.alloc o).alloc o2).alloc (.cells cs T)) ((w.alloc o).alloc o2).heap.size cs T):Blk (((w.alloc o).alloc o2).alloc (.cells cs T)) (w.heap.size+1+1) cs T:=by
 have e:((w.alloc o).alloc o2).heap.size=w.heap.size+1+1:=by simp
 rw [← e];exact h
theorem box5 {w:World} {X:Nat} {a b c d e:Value} {T:TypeId} (h:Blk w X #[a,b,c,d,e] T):(w.cell? ⟨X,0,none⟩=some a∧w.cell? ⟨X,1,none⟩=some b∧w.cell? ⟨X,2,none⟩=some c∧w.cell? ⟨X,3,none⟩=some d∧w.cell? ⟨X,4,none⟩=some e)∧w.frozen? ⟨X,0,none⟩=false∧w.frozen? ⟨X,1,none⟩=false∧w.frozen? ⟨X,2,none⟩=false∧w.frozen? ⟨X,3,none⟩=false∧w.frozen? ⟨X,4,none⟩=false:=
 ⟨⟨h.cell 0,h.cell 1,h.cell 2,h.cell 3,h.cell 4⟩,h.free 0,h.free 1,h.free 2,h.free 3,h.free 4⟩

theorem value_list (f:Nat) (hV:∀ g,g<f→ValAt g) (R e:Nat) (n:Int) (a:Nat) (l:List Scn.Tok) (d p:Nat) (w:World) (h:Rdr w R e l p) (hp:p≤8192) (hl:∀ x∈l,TokOk x) (hne:Rd.rdV (f+1) e ⟨1,n,[91],a⟩ l d p≠.out):
  Calls Tryz.prog 46 #[.pointer (some ⟨R,0,none⟩),tkA ⟨1,n,[91],a⟩,.int .i64 (d:Nat)] w (ValP R e w (Rd.rdV (f+1) e ⟨1,n,[91],a⟩ l d p)):=by
 have e0:Rd.rdV (f+1) e ⟨1,n,[91],a⟩ l d p=if 16<d then .bad a 51 else if 8192≤p then .bad a 53 else if Rd.isM (Rd.next e l) 93 then .ok (JV.listV []) l.tail (p+1) else Rd.rdL f e l d (p+1) []:=by
  rw [Rd.rdV_succ,if_neg (by simp [Rd.isM])];rfl
 rw [e0] at hne ⊢
 clear e0
 have c2:=h.c2
 have hlt:=Lib.hid h.lt
 have f2:=h.fz 2
 have HR:=Lib.hid h
 have HL:=Lib.hid hl
 have HV:=Lib.hid hV
 have hn0:¬ R=w.heap.size:=by have:=hlt.out;omega
 have hn1:¬ w.heap.size=R:=by have:=hlt.out;omega
 clear h hl hV
 have HT:Hid (tkA ⟨1,n,[91],a⟩=.agg #[.int .i64 1,.int .i64 n,.string ⟨#[91]⟩,.int .i64 (a:Nat)]):=rfl
 rw [HT.out]
 by_cases h1:16<d
 ·rw [if_pos h1]
  have d1:decide ((16:Int)<(d:Int))=true:=decide_eq_true (by omega)
  clear h1 hne
  go_enter Tryz.func46,Tryz.ntmps46
  go_wp2_with (first
   | (go_at_call 48;have hm:=HF1.out;refine (wrong_at ⟨1,n,[91],a⟩ 51 51 rfl _).mono ?_;rintro x w3 ⟨rfl,hf⟩;have HF3:=Lib.hid (FrX.of (C:=R) hf);clear hf hm)
   | (go_at_call 70;refine (is_is ⟨1,n,[91],a⟩ 91 _ true rfl).mono ?_;rintro x w1 ⟨rfl,hf⟩;have h1:=((((Fr.refl w).alloc (.cells #[.int .i64 1,.int .i64 n,.string ⟨#[91]⟩,.int .i64 (a:Nat)] 88)).alloc (.cells #[.int .i64 0,.int .i64 0,.string ⟨#[]⟩,.slice none 0 0,.slice none 0 0] 25)).alloc (.cells #[.int .i64 0,.int .i64 0,.string ⟨#[]⟩,.slice none 0 0,.slice none 0 0] 25)).trans hf;have ht:=(((TB.made w ⟨1,n,[91],a⟩).keep ((Fr.refl _).alloc _)).keep ((Fr.refl _).alloc _)).keep hf;obtain ⟨_,x0,x1,x2,x3⟩:=ht;have HBZ:Hid (Blk w1 (w.heap.size+1) #[.int .i64 0,.int .i64 0,.string ⟨#[]⟩,.slice none 0 0,.slice none 0 0] 25):=Lib.hid (((boxz (Blk.made (w.alloc (.cells #[.int .i64 1,.int .i64 n,.string ⟨#[91]⟩,.int .i64 (a:Nat)] 88)) #[.int .i64 0,.int .i64 0,.string ⟨#[]⟩,.slice none 0 0,.slice none 0 0] 25)).keep ((Fr.refl _).alloc _)).keep hf);have HBY:Hid (Blk w1 (w.heap.size+1+1) #[.int .i64 0,.int .i64 0,.string ⟨#[]⟩,.slice none 0 0,.slice none 0 0] 25):=Lib.hid ((boxy (Blk.made ((w.alloc (.cells #[.int .i64 1,.int .i64 n,.string ⟨#[91]⟩,.int .i64 (a:Nat)] 88)).alloc (.cells #[.int .i64 0,.int .i64 0,.string ⟨#[]⟩,.slice none 0 0,.slice none 0 0] 25)) #[.int .i64 0,.int .i64 0,.string ⟨#[]⟩,.slice none 0 0,.slice none 0 0] 25)).keep hf);have y0:=HBY.out.cell 0;have yf:=HBY.out.free 0;have r2:=(h1.cell hlt.out).trans c2;have rf:=(h1.frozen hlt.out).trans f2;have HF1:=Lib.hid h1;clear h1 hf))
  exact ⟨rfl,rfl,((FrX.of HF1.out).setNew (by show w.heap.size≤w.heap.size+1+1;omega) _).trans HF3.out⟩
 rw [if_neg h1] at hne ⊢
 have d1:decide ((16:Int)<(d:Int))=false:=decide_eq_false (by omega)
 have hd16:Hid (d≤16):=by show _≤_;omega
 by_cases h2:8192≤p
 ·obtain rfl:p=8192:=by omega
  rw [if_pos h2]
  clear h1 h2 hne
  go_enter Tryz.func46,Tryz.ntmps46
  go_wp2_with (first
   | (go_at_call 48;have hm:=HF1.out;refine (wrong_at ⟨1,n,[91],a⟩ 53 53 rfl _).mono ?_;rintro x w3 ⟨rfl,hf⟩;have HF3:=Lib.hid (FrX.of (C:=R) hf);clear hf hm)
   | (go_at_call 70;refine (is_is ⟨1,n,[91],a⟩ 91 _ true rfl).mono ?_;rintro x w1 ⟨rfl,hf⟩;have h1:=((((Fr.refl w).alloc (.cells #[.int .i64 1,.int .i64 n,.string ⟨#[91]⟩,.int .i64 (a:Nat)] 88)).alloc (.cells #[.int .i64 0,.int .i64 0,.string ⟨#[]⟩,.slice none 0 0,.slice none 0 0] 25)).alloc (.cells #[.int .i64 0,.int .i64 0,.string ⟨#[]⟩,.slice none 0 0,.slice none 0 0] 25)).trans hf;have ht:=(((TB.made w ⟨1,n,[91],a⟩).keep ((Fr.refl _).alloc _)).keep ((Fr.refl _).alloc _)).keep hf;obtain ⟨_,x0,x1,x2,x3⟩:=ht;have HBZ:Hid (Blk w1 (w.heap.size+1) #[.int .i64 0,.int .i64 0,.string ⟨#[]⟩,.slice none 0 0,.slice none 0 0] 25):=Lib.hid (((boxz (Blk.made (w.alloc (.cells #[.int .i64 1,.int .i64 n,.string ⟨#[91]⟩,.int .i64 (a:Nat)] 88)) #[.int .i64 0,.int .i64 0,.string ⟨#[]⟩,.slice none 0 0,.slice none 0 0] 25)).keep ((Fr.refl _).alloc _)).keep hf);have HBY:Hid (Blk w1 (w.heap.size+1+1) #[.int .i64 0,.int .i64 0,.string ⟨#[]⟩,.slice none 0 0,.slice none 0 0] 25):=Lib.hid ((boxy (Blk.made ((w.alloc (.cells #[.int .i64 1,.int .i64 n,.string ⟨#[91]⟩,.int .i64 (a:Nat)] 88)).alloc (.cells #[.int .i64 0,.int .i64 0,.string ⟨#[]⟩,.slice none 0 0,.slice none 0 0] 25)) #[.int .i64 0,.int .i64 0,.string ⟨#[]⟩,.slice none 0 0,.slice none 0 0] 25)).keep hf);have y0:=HBY.out.cell 0;have yf:=HBY.out.free 0;have r2:=(h1.cell hlt.out).trans c2;have rf:=(h1.frozen hlt.out).trans f2;have HF1:=Lib.hid h1;clear h1 hf))
  exact ⟨rfl,rfl,(((FrX.of HF1.out).setNew (by show w.heap.size≤w.heap.size+1+1;omega) _).setCell rfl _).trans HF3.out⟩
 rw [if_neg h2] at hne ⊢
 have hp2:(p:Int)≤8191:=by omega
 have hp3:Hid (p+1≤8192):=by show _≤_;omega
 have d2:decide ((8192:Int)<(p:Int)+1)=false:=decide_eq_false (by omega)
 clear h1 h2
 obtain ⟨r,hr⟩:∃ r,(if Rd.isM (Rd.next e l) 93 then Rd.R.ok (JV.listV []) l.tail (p+1) else Rd.rdL f e l d (p+1) [])=r:=⟨_,rfl⟩
 rw [hr] at hne ⊢
 have HRR:=Lib.hid hr
 clear hr
 have HC:∀ w1,Hid (Fr ((((w.alloc (.cells #[.int .i64 1,.int .i64 n,.string ⟨#[91]⟩,.int .i64 (a:Nat)] 88)).alloc (.cells #[.int .i64 0,.int .i64 0,.string ⟨#[]⟩,.slice none 0 0,.slice none 0 0] 25)).alloc (.cells #[.int .i64 0,.int .i64 0,.string ⟨#[]⟩,.slice none 0 0,.slice none 0 0] 25))) w1)→Hid (Calls Tryz.prog 71 #[.pointer (some ⟨R,0,none⟩),.int .i64 (d:Nat)] ((w1.setCell ⟨w.heap.size+1+1,0,none⟩ (.int .i64 5)).setCell ⟨R,2,none⟩ (.int .i64 ((p:Int)+1))) (LstP R e ((w1.setCell ⟨w.heap.size+1+1,0,none⟩ (.int .i64 5)).setCell ⟨R,2,none⟩ (.int .i64 ((p:Int)+1))) r)):=fun w1 hf=>by
  have h1:=((((HR.out.keep ((Fr.refl w).alloc _)).keep ((Fr.refl _).alloc _)).keep ((Fr.refl _).alloc _)).keep hf.out)
  have hr5:=(h1.setY (a:=⟨w.heap.size+1+1,0,none⟩) (by show R<w.heap.size+1+1;have:=hlt.out;omega) (.int .i64 5)).more (z:=(p:Int)+1) (by omega)
  exact list_is f HV.out R e l d (p+1) _ hr5 hp3.out hd16.out HL.out r HRR.out hne
 have HNE:=Lib.hid hne
 clear hne
 rcases r with _ | ⟨ba,bc⟩ | ⟨v,l',p'⟩
 ·exact absurd rfl HNE.out
 ·go_enter Tryz.func46,Tryz.ntmps46
  go_wp2_with (first
   | (go_at_call 71;have hm:=HFA.out;refine ((HC w1 HFA).out).mono ?_;rintro x w6 ⟨rfl,hf⟩;have HF6:=Lib.hid hf;clear hf hm)
   | (go_at_call 70;refine (is_is ⟨1,n,[91],a⟩ 91 _ true rfl).mono ?_;rintro x w1 ⟨rfl,hf⟩;have h1:=((((Fr.refl w).alloc (.cells #[.int .i64 1,.int .i64 n,.string ⟨#[91]⟩,.int .i64 (a:Nat)] 88)).alloc (.cells #[.int .i64 0,.int .i64 0,.string ⟨#[]⟩,.slice none 0 0,.slice none 0 0] 25)).alloc (.cells #[.int .i64 0,.int .i64 0,.string ⟨#[]⟩,.slice none 0 0,.slice none 0 0] 25)).trans hf;have ht:=(((TB.made w ⟨1,n,[91],a⟩).keep ((Fr.refl _).alloc _)).keep ((Fr.refl _).alloc _)).keep hf;obtain ⟨_,x0,x1,x2,x3⟩:=ht;have HBZ:Hid (Blk w1 (w.heap.size+1) #[.int .i64 0,.int .i64 0,.string ⟨#[]⟩,.slice none 0 0,.slice none 0 0] 25):=Lib.hid (((boxz (Blk.made (w.alloc (.cells #[.int .i64 1,.int .i64 n,.string ⟨#[91]⟩,.int .i64 (a:Nat)] 88)) #[.int .i64 0,.int .i64 0,.string ⟨#[]⟩,.slice none 0 0,.slice none 0 0] 25)).keep ((Fr.refl _).alloc _)).keep hf);have HBY:Hid (Blk w1 (w.heap.size+1+1) #[.int .i64 0,.int .i64 0,.string ⟨#[]⟩,.slice none 0 0,.slice none 0 0] 25):=Lib.hid ((boxy (Blk.made ((w.alloc (.cells #[.int .i64 1,.int .i64 n,.string ⟨#[91]⟩,.int .i64 (a:Nat)] 88)).alloc (.cells #[.int .i64 0,.int .i64 0,.string ⟨#[]⟩,.slice none 0 0,.slice none 0 0] 25)) #[.int .i64 0,.int .i64 0,.string ⟨#[]⟩,.slice none 0 0,.slice none 0 0] 25)).keep hf);have y0:=HBY.out.cell 0;have yf:=HBY.out.free 0;have r2:=(h1.cell hlt.out).trans c2;have rf:=(h1.frozen hlt.out).trans f2;have HF1:=Lib.hid h1;have HFA:=Lib.hid hf;clear h1 hf))
  exact ⟨rfl,rfl,(((FrX.of HF1.out).setNew (by show w.heap.size≤w.heap.size+1+1;omega) _).setCell rfl _).trans HF6.out⟩
 ·go_enter Tryz.func46,Tryz.ntmps46
  go_wp2_with (first
   | (go_at_call 71;have hm:=HFA.out;refine ((HC w1 HFA).out).mono ?_;rintro x w6 ⟨val,ls,rfl,rfl,hvs,hlen,hr6,hf⟩;obtain ⟨sa,sc,rfl⟩:=hvs.is_slice;have hz6:=((HBZ.out.other (p:=⟨w.heap.size+1+1,0,none⟩) (by show w.heap.size+1+1≠w.heap.size+1;omega) (.int .i64 5)).other (p:=⟨R,2,none⟩) (by show R≠w.heap.size+1;have:=hlt.out;omega) (.int .i64 ((p:Int)+1))).frx hf (by have:=hlt.out;omega);have hy6:Blk w6 (w.heap.size+1+1) #[.int .i64 5,.int .i64 0,.string ⟨#[]⟩,.slice none 0 0,.slice none 0 0] 25:=((HBY.out.set 0 (.int .i64 5)).other (p:=⟨R,2,none⟩) (by show R≠w.heap.size+1+1;have:=hlt.out;omega) (.int .i64 ((p:Int)+1))).frx hf (by have:=hlt.out;omega);obtain ⟨⟨a0,a1,a2,a3,a4⟩,b0,b1,b2,b3,b4⟩:=box5 hy6;obtain ⟨⟨e0,e1,e2,e3,e4⟩,g0,g1,g2,g3,g4⟩:=box5 hz6;have HZ6:=Lib.hid hz6;have HY6:=Lib.hid hy6;have HVS:=Lib.hid hvs;have HLN:=Lib.hid hlen;have HR6:=Lib.hid hr6;have HF6:=Lib.hid hf;clear hf hm hz6 hy6 hvs hlen hr6)
   | (go_at_call 70;refine (is_is ⟨1,n,[91],a⟩ 91 _ true rfl).mono ?_;rintro x w1 ⟨rfl,hf⟩;have h1:=((((Fr.refl w).alloc (.cells #[.int .i64 1,.int .i64 n,.string ⟨#[91]⟩,.int .i64 (a:Nat)] 88)).alloc (.cells #[.int .i64 0,.int .i64 0,.string ⟨#[]⟩,.slice none 0 0,.slice none 0 0] 25)).alloc (.cells #[.int .i64 0,.int .i64 0,.string ⟨#[]⟩,.slice none 0 0,.slice none 0 0] 25)).trans hf;have ht:=(((TB.made w ⟨1,n,[91],a⟩).keep ((Fr.refl _).alloc _)).keep ((Fr.refl _).alloc _)).keep hf;obtain ⟨_,x0,x1,x2,x3⟩:=ht;have HBZ:Hid (Blk w1 (w.heap.size+1) #[.int .i64 0,.int .i64 0,.string ⟨#[]⟩,.slice none 0 0,.slice none 0 0] 25):=Lib.hid (((boxz (Blk.made (w.alloc (.cells #[.int .i64 1,.int .i64 n,.string ⟨#[91]⟩,.int .i64 (a:Nat)] 88)) #[.int .i64 0,.int .i64 0,.string ⟨#[]⟩,.slice none 0 0,.slice none 0 0] 25)).keep ((Fr.refl _).alloc _)).keep hf);have HBY:Hid (Blk w1 (w.heap.size+1+1) #[.int .i64 0,.int .i64 0,.string ⟨#[]⟩,.slice none 0 0,.slice none 0 0] 25):=Lib.hid ((boxy (Blk.made ((w.alloc (.cells #[.int .i64 1,.int .i64 n,.string ⟨#[91]⟩,.int .i64 (a:Nat)] 88)).alloc (.cells #[.int .i64 0,.int .i64 0,.string ⟨#[]⟩,.slice none 0 0,.slice none 0 0] 25)) #[.int .i64 0,.int .i64 0,.string ⟨#[]⟩,.slice none 0 0,.slice none 0 0] 25)).keep hf);have y0:=HBY.out.cell 0;have yf:=HBY.out.free 0;have r2:=(h1.cell hlt.out).trans c2;have rf:=(h1.frozen hlt.out).trans f2;have HF1:=Lib.hid h1;have HFA:=Lib.hid hf;clear h1 hf))
  have hz7:Blk (w6.setCell ⟨w.heap.size+1+1,3,none⟩ (.slice sa ls.length sc)) (w.heap.size+1) #[.int .i64 0,.int .i64 0,.string ⟨#[]⟩,.slice none 0 0,.slice none 0 0] 25:=HZ6.out.other (by show w.heap.size+1+1≠w.heap.size+1;omega) _
  refine bodyPost_ret (results_cell_row (by rfl) _ _ (w.heap.size+1) 25 _ (0,0) _ (by rfl) (set5 hz7) Tryz.underlying25 rfl (by kernel_rfl)) rfl ?_
  have hRw:∀ j,R<(Addr.mk (w.heap.size+1) j none).block:=fun j=>(by show R<w.heap.size+1;have:=hlt.out;omega)
  have hRy:R<(Addr.mk (w.heap.size+1+1) 3 none).block:=by show R<w.heap.size+1+1;have:=hlt.out;omega
  have hSw:∀ j,w.heap.size≤(Addr.mk (w.heap.size+1) j none).block:=fun j=>(by show w.heap.size≤w.heap.size+1;omega)
  have hSy:∀ j,w.heap.size≤(Addr.mk (w.heap.size+1+1) j none).block:=fun j=>(by show w.heap.size≤w.heap.size+1+1;omega)
  have hbg:w.heap.size+3≤((w1.setCell ⟨w.heap.size+1+1,0,none⟩ (.int .i64 5)).setCell ⟨R,2,none⟩ (.int .i64 ((p:Int)+1))).heap.size:=by have:=HFA.out.size;simpa [World.setCell] using this
  have hin:=(HVS.out.inV (by have:=HLN.out;omega)).map (S':=Be w.heap.size w6.heap.size) (fun b hb=>⟨by have:=hb.1;omega,hb.2⟩) (w':=(((((w6.setCell ⟨w.heap.size+1+1,3,none⟩ (.slice sa ls.length sc)).setCell ⟨w.heap.size+1,0,none⟩ (.int .i64 5)).setCell ⟨w.heap.size+1,1,none⟩ (.int .i64 0)).setCell ⟨w.heap.size+1,2,none⟩ (.string ⟨#[]⟩)).setCell ⟨w.heap.size+1,3,none⟩ (.slice sa ls.length sc)).setCell ⟨w.heap.size+1,4,none⟩ (.slice none 0 0)) (fun b o hb=>by
   have h3:=hb.1
   have n1:b≠w.heap.size+1:=by omega
   have n2:b≠w.heap.size+1+1:=by omega
   simp only [World.cell?]
   rw [Below.heap_setCell _ _ _ _ n1,Below.heap_setCell _ _ _ _ n1,Below.heap_setCell _ _ _ _ n1,Below.heap_setCell _ _ _ _ n1,Below.heap_setCell _ _ _ _ n1,Below.heap_setCell _ _ _ _ n2])
  refine ⟨_,rfl,⟨hin.more (fun b hb=>⟨hb.1,by simpa [World.setCell] using hb.2⟩),⟨_,_,_,sa,_,sc,none,0,0,rfl,((((((HVS.out.sft.set _ _).set _ _).set _ _).set _ _).set _ _).set _ _),Sft.none_ _⟩⟩,?_,?_⟩
  ·exact (((((HR6.out.setY hRy _).setY (hRw _) _).setY (hRw _) _).setY (hRw _) _).setY (hRw _) _).setY (hRw _) _
  ·exact (((((((((FrX.of HF1.out).setNew (hSy _) _).setCell rfl _).trans HF6.out).setNew (hSy _) _).setNew (hSw _) _).setNew (hSw _) _).setNew (hSw _) _).setNew (hSw _) _).setNew (hSw _) _

theorem value_map (f:Nat) (hV:∀ g,g<f→ValAt g) (R e:Nat) (n:Int) (a:Nat) (l:List Scn.Tok) (d p:Nat) (w:World) (h:Rdr w R e l p) (hp:p≤8192) (hl:∀ x∈l,TokOk x) (hne:Rd.rdV (f+1) e ⟨1,n,[123],a⟩ l d p≠.out):
  Calls Tryz.prog 46 #[.pointer (some ⟨R,0,none⟩),tkA ⟨1,n,[123],a⟩,.int .i64 (d:Nat)] w (ValP R e w (Rd.rdV (f+1) e ⟨1,n,[123],a⟩ l d p)):=by
 have e0:Rd.rdV (f+1) e ⟨1,n,[123],a⟩ l d p=if 16<d then .bad a 51 else if 8192≤p then .bad a 53 else if Rd.isM (Rd.next e l) 125 then .ok (JV.mapV []) l.tail (p+1) else Rd.rdM f e l d (p+1) []:=by
  rw [Rd.rdV_succ,if_neg (by simp [Rd.isM])];rfl
 rw [e0] at hne ⊢
 clear e0
 have c2:=h.c2
 have hlt:=Lib.hid h.lt
 have f2:=h.fz 2
 have HR:=Lib.hid h
 have HL:=Lib.hid hl
 have HV:=Lib.hid hV
 have hn0:¬ R=w.heap.size:=by have:=hlt.out;omega
 have hn1:¬ w.heap.size=R:=by have:=hlt.out;omega
 clear h hl hV
 have HT:Hid (tkA ⟨1,n,[123],a⟩=.agg #[.int .i64 1,.int .i64 n,.string ⟨#[123]⟩,.int .i64 (a:Nat)]):=rfl
 rw [HT.out]
 by_cases h1:16<d
 ·rw [if_pos h1]
  have d1:decide ((16:Int)<(d:Int))=true:=decide_eq_true (by omega)
  clear h1 hne
  go_enter Tryz.func46,Tryz.ntmps46
  go_wp2_with (first
   | (go_at_call 48;have hm:=HF1.out;refine (wrong_at ⟨1,n,[123],a⟩ 51 51 rfl _).mono ?_;rintro x w3 ⟨rfl,hf⟩;have HF3:=Lib.hid (FrX.of (C:=R) hf);clear hf hm)
   | (go_at_call 70;have hm:=HF0.out;refine (is_is ⟨1,n,[123],a⟩ 123 _ true rfl).mono ?_;rintro x w1 ⟨rfl,hf'⟩;have hf:=hm.trans hf';have h1:=((((Fr.refl w).alloc (.cells #[.int .i64 1,.int .i64 n,.string ⟨#[123]⟩,.int .i64 (a:Nat)] 88)).alloc (.cells #[.int .i64 0,.int .i64 0,.string ⟨#[]⟩,.slice none 0 0,.slice none 0 0] 25)).alloc (.cells #[.int .i64 0,.int .i64 0,.string ⟨#[]⟩,.slice none 0 0,.slice none 0 0] 25)).trans hf;have ht:=(((TB.made w ⟨1,n,[123],a⟩).keep ((Fr.refl _).alloc _)).keep ((Fr.refl _).alloc _)).keep hf;obtain ⟨_,x0,x1,x2,x3⟩:=ht;have HBZ:Hid (Blk w1 (w.heap.size+1) #[.int .i64 0,.int .i64 0,.string ⟨#[]⟩,.slice none 0 0,.slice none 0 0] 25):=Lib.hid (((boxz (Blk.made (w.alloc (.cells #[.int .i64 1,.int .i64 n,.string ⟨#[123]⟩,.int .i64 (a:Nat)] 88)) #[.int .i64 0,.int .i64 0,.string ⟨#[]⟩,.slice none 0 0,.slice none 0 0] 25)).keep ((Fr.refl _).alloc _)).keep hf);have HBY:Hid (Blk w1 (w.heap.size+1+1) #[.int .i64 0,.int .i64 0,.string ⟨#[]⟩,.slice none 0 0,.slice none 0 0] 25):=Lib.hid ((boxy (Blk.made ((w.alloc (.cells #[.int .i64 1,.int .i64 n,.string ⟨#[123]⟩,.int .i64 (a:Nat)] 88)).alloc (.cells #[.int .i64 0,.int .i64 0,.string ⟨#[]⟩,.slice none 0 0,.slice none 0 0] 25)) #[.int .i64 0,.int .i64 0,.string ⟨#[]⟩,.slice none 0 0,.slice none 0 0] 25)).keep hf);have y0:=HBY.out.cell 0;have yf:=HBY.out.free 0;have r2:=(h1.cell hlt.out).trans c2;have rf:=(h1.frozen hlt.out).trans f2;have HF1:=Lib.hid h1;clear h1 hf;clear hm hf')
   | (go_at_call 70;refine (is_is ⟨1,n,[123],a⟩ 91 _ false rfl).mono ?_;rintro x w0 ⟨rfl,hf⟩;have ht:=(((TB.made w ⟨1,n,[123],a⟩).keep ((Fr.refl _).alloc _)).keep ((Fr.refl _).alloc _)).keep hf;obtain ⟨_,u0,u1,u2,u3⟩:=ht;have HF0:=Lib.hid hf;clear hf))
  exact ⟨rfl,rfl,((FrX.of HF1.out).setNew (by show w.heap.size≤w.heap.size+1+1;omega) _).trans HF3.out⟩
 rw [if_neg h1] at hne ⊢
 have d1:decide ((16:Int)<(d:Int))=false:=decide_eq_false (by omega)
 have hd16:Hid (d≤16):=by show _≤_;omega
 by_cases h2:8192≤p
 ·obtain rfl:p=8192:=by omega
  rw [if_pos h2]
  clear h1 h2 hne
  go_enter Tryz.func46,Tryz.ntmps46
  go_wp2_with (first
   | (go_at_call 48;have hm:=HF1.out;refine (wrong_at ⟨1,n,[123],a⟩ 53 53 rfl _).mono ?_;rintro x w3 ⟨rfl,hf⟩;have HF3:=Lib.hid (FrX.of (C:=R) hf);clear hf hm)
   | (go_at_call 70;have hm:=HF0.out;refine (is_is ⟨1,n,[123],a⟩ 123 _ true rfl).mono ?_;rintro x w1 ⟨rfl,hf'⟩;have hf:=hm.trans hf';have h1:=((((Fr.refl w).alloc (.cells #[.int .i64 1,.int .i64 n,.string ⟨#[123]⟩,.int .i64 (a:Nat)] 88)).alloc (.cells #[.int .i64 0,.int .i64 0,.string ⟨#[]⟩,.slice none 0 0,.slice none 0 0] 25)).alloc (.cells #[.int .i64 0,.int .i64 0,.string ⟨#[]⟩,.slice none 0 0,.slice none 0 0] 25)).trans hf;have ht:=(((TB.made w ⟨1,n,[123],a⟩).keep ((Fr.refl _).alloc _)).keep ((Fr.refl _).alloc _)).keep hf;obtain ⟨_,x0,x1,x2,x3⟩:=ht;have HBZ:Hid (Blk w1 (w.heap.size+1) #[.int .i64 0,.int .i64 0,.string ⟨#[]⟩,.slice none 0 0,.slice none 0 0] 25):=Lib.hid (((boxz (Blk.made (w.alloc (.cells #[.int .i64 1,.int .i64 n,.string ⟨#[123]⟩,.int .i64 (a:Nat)] 88)) #[.int .i64 0,.int .i64 0,.string ⟨#[]⟩,.slice none 0 0,.slice none 0 0] 25)).keep ((Fr.refl _).alloc _)).keep hf);have HBY:Hid (Blk w1 (w.heap.size+1+1) #[.int .i64 0,.int .i64 0,.string ⟨#[]⟩,.slice none 0 0,.slice none 0 0] 25):=Lib.hid ((boxy (Blk.made ((w.alloc (.cells #[.int .i64 1,.int .i64 n,.string ⟨#[123]⟩,.int .i64 (a:Nat)] 88)).alloc (.cells #[.int .i64 0,.int .i64 0,.string ⟨#[]⟩,.slice none 0 0,.slice none 0 0] 25)) #[.int .i64 0,.int .i64 0,.string ⟨#[]⟩,.slice none 0 0,.slice none 0 0] 25)).keep hf);have y0:=HBY.out.cell 0;have yf:=HBY.out.free 0;have r2:=(h1.cell hlt.out).trans c2;have rf:=(h1.frozen hlt.out).trans f2;have HF1:=Lib.hid h1;clear h1 hf;clear hm hf')
   | (go_at_call 70;refine (is_is ⟨1,n,[123],a⟩ 91 _ false rfl).mono ?_;rintro x w0 ⟨rfl,hf⟩;have ht:=(((TB.made w ⟨1,n,[123],a⟩).keep ((Fr.refl _).alloc _)).keep ((Fr.refl _).alloc _)).keep hf;obtain ⟨_,u0,u1,u2,u3⟩:=ht;have HF0:=Lib.hid hf;clear hf))
  exact ⟨rfl,rfl,(((FrX.of HF1.out).setNew (by show w.heap.size≤w.heap.size+1+1;omega) _).setCell rfl _).trans HF3.out⟩
 rw [if_neg h2] at hne ⊢
 have hp2:(p:Int)≤8191:=by omega
 have hp3:Hid (p+1≤8192):=by show _≤_;omega
 have d2:decide ((8192:Int)<(p:Int)+1)=false:=decide_eq_false (by omega)
 clear h1 h2
 obtain ⟨r,hr⟩:∃ r,(if Rd.isM (Rd.next e l) 125 then Rd.R.ok (JV.mapV []) l.tail (p+1) else Rd.rdM f e l d (p+1) [])=r:=⟨_,rfl⟩
 rw [hr] at hne ⊢
 have HRR:=Lib.hid hr
 clear hr
 have HC:∀ w1,Hid (Fr ((((w.alloc (.cells #[.int .i64 1,.int .i64 n,.string ⟨#[123]⟩,.int .i64 (a:Nat)] 88)).alloc (.cells #[.int .i64 0,.int .i64 0,.string ⟨#[]⟩,.slice none 0 0,.slice none 0 0] 25)).alloc (.cells #[.int .i64 0,.int .i64 0,.string ⟨#[]⟩,.slice none 0 0,.slice none 0 0] 25))) w1)→Hid (Calls Tryz.prog 72 #[.pointer (some ⟨R,0,none⟩),.int .i64 (d:Nat)] ((w1.setCell ⟨w.heap.size+1+1,0,none⟩ (.int .i64 6)).setCell ⟨R,2,none⟩ (.int .i64 ((p:Int)+1))) (MapP R e ((w1.setCell ⟨w.heap.size+1+1,0,none⟩ (.int .i64 6)).setCell ⟨R,2,none⟩ (.int .i64 ((p:Int)+1))) r)):=fun w1 hf=>by
  have h1:=((((HR.out.keep ((Fr.refl w).alloc _)).keep ((Fr.refl _).alloc _)).keep ((Fr.refl _).alloc _)).keep hf.out)
  have hr5:=(h1.setY (a:=⟨w.heap.size+1+1,0,none⟩) (by show R<w.heap.size+1+1;have:=hlt.out;omega) (.int .i64 6)).more (z:=(p:Int)+1) (by omega)
  exact members_is f HV.out R e l d (p+1) _ hr5 hp3.out hd16.out HL.out r HRR.out hne
 have HNE:=Lib.hid hne
 clear hne
 rcases r with _ | ⟨ba,bc⟩ | ⟨v,l',p'⟩
 ·exact absurd rfl HNE.out
 ·go_enter Tryz.func46,Tryz.ntmps46
  go_wp2_with (first
   | (go_at_call 72;have hm:=HFA.out;refine ((HC w1 HFA).out).mono ?_;rintro x w6 ⟨rfl,hf⟩;have HF6:=Lib.hid hf;clear hf hm)
   | (go_at_call 70;have hm:=HF0.out;refine (is_is ⟨1,n,[123],a⟩ 123 _ true rfl).mono ?_;rintro x w1 ⟨rfl,hf'⟩;have hf:=hm.trans hf';have h1:=((((Fr.refl w).alloc (.cells #[.int .i64 1,.int .i64 n,.string ⟨#[123]⟩,.int .i64 (a:Nat)] 88)).alloc (.cells #[.int .i64 0,.int .i64 0,.string ⟨#[]⟩,.slice none 0 0,.slice none 0 0] 25)).alloc (.cells #[.int .i64 0,.int .i64 0,.string ⟨#[]⟩,.slice none 0 0,.slice none 0 0] 25)).trans hf;have ht:=(((TB.made w ⟨1,n,[123],a⟩).keep ((Fr.refl _).alloc _)).keep ((Fr.refl _).alloc _)).keep hf;obtain ⟨_,x0,x1,x2,x3⟩:=ht;have HBZ:Hid (Blk w1 (w.heap.size+1) #[.int .i64 0,.int .i64 0,.string ⟨#[]⟩,.slice none 0 0,.slice none 0 0] 25):=Lib.hid (((boxz (Blk.made (w.alloc (.cells #[.int .i64 1,.int .i64 n,.string ⟨#[123]⟩,.int .i64 (a:Nat)] 88)) #[.int .i64 0,.int .i64 0,.string ⟨#[]⟩,.slice none 0 0,.slice none 0 0] 25)).keep ((Fr.refl _).alloc _)).keep hf);have HBY:Hid (Blk w1 (w.heap.size+1+1) #[.int .i64 0,.int .i64 0,.string ⟨#[]⟩,.slice none 0 0,.slice none 0 0] 25):=Lib.hid ((boxy (Blk.made ((w.alloc (.cells #[.int .i64 1,.int .i64 n,.string ⟨#[123]⟩,.int .i64 (a:Nat)] 88)).alloc (.cells #[.int .i64 0,.int .i64 0,.string ⟨#[]⟩,.slice none 0 0,.slice none 0 0] 25)) #[.int .i64 0,.int .i64 0,.string ⟨#[]⟩,.slice none 0 0,.slice none 0 0] 25)).keep hf);have y0:=HBY.out.cell 0;have yf:=HBY.out.free 0;have r2:=(h1.cell hlt.out).trans c2;have rf:=(h1.frozen hlt.out).trans f2;have HF1:=Lib.hid h1;have HFA:=Lib.hid hf;clear h1 hf;clear hm hf')
   | (go_at_call 70;refine (is_is ⟨1,n,[123],a⟩ 91 _ false rfl).mono ?_;rintro x w0 ⟨rfl,hf⟩;have ht:=(((TB.made w ⟨1,n,[123],a⟩).keep ((Fr.refl _).alloc _)).keep ((Fr.refl _).alloc _)).keep hf;obtain ⟨_,u0,u1,u2,u3⟩:=ht;have HF0:=Lib.hid hf;clear hf))
  exact ⟨rfl,rfl,(((FrX.of HF1.out).setNew (by show w.heap.size≤w.heap.size+1+1;omega) _).setCell rfl _).trans HF6.out⟩
 ·go_enter Tryz.func46,Tryz.ntmps46
  go_wp2_with (first
   | (go_at_call 72;have hm:=HFA.out;refine ((HC w1 HFA).out).mono ?_;rintro x w6 ⟨val,ls,rfl,rfl,hvs,hlen,hr6,hf⟩;obtain ⟨sa,sc,rfl⟩:=hvs.is_slice;have hz6:=((HBZ.out.other (p:=⟨w.heap.size+1+1,0,none⟩) (by show w.heap.size+1+1≠w.heap.size+1;omega) (.int .i64 6)).other (p:=⟨R,2,none⟩) (by show R≠w.heap.size+1;have:=hlt.out;omega) (.int .i64 ((p:Int)+1))).frx hf (by have:=hlt.out;omega);have hy6:Blk w6 (w.heap.size+1+1) #[.int .i64 6,.int .i64 0,.string ⟨#[]⟩,.slice none 0 0,.slice none 0 0] 25:=((HBY.out.set 0 (.int .i64 6)).other (p:=⟨R,2,none⟩) (by show R≠w.heap.size+1+1;have:=hlt.out;omega) (.int .i64 ((p:Int)+1))).frx hf (by have:=hlt.out;omega);obtain ⟨⟨a0,a1,a2,a3,a4⟩,b0,b1,b2,b3,b4⟩:=box5 hy6;obtain ⟨⟨e0,e1,e2,e3,e4⟩,g0,g1,g2,g3,g4⟩:=box5 hz6;have HZ6:=Lib.hid hz6;have HY6:=Lib.hid hy6;have HVS:=Lib.hid hvs;have HLN:=Lib.hid hlen;have HR6:=Lib.hid hr6;have HF6:=Lib.hid hf;clear hf hm hz6 hy6 hvs hlen hr6)
   | (go_at_call 70;have hm:=HF0.out;refine (is_is ⟨1,n,[123],a⟩ 123 _ true rfl).mono ?_;rintro x w1 ⟨rfl,hf'⟩;have hf:=hm.trans hf';have h1:=((((Fr.refl w).alloc (.cells #[.int .i64 1,.int .i64 n,.string ⟨#[123]⟩,.int .i64 (a:Nat)] 88)).alloc (.cells #[.int .i64 0,.int .i64 0,.string ⟨#[]⟩,.slice none 0 0,.slice none 0 0] 25)).alloc (.cells #[.int .i64 0,.int .i64 0,.string ⟨#[]⟩,.slice none 0 0,.slice none 0 0] 25)).trans hf;have ht:=(((TB.made w ⟨1,n,[123],a⟩).keep ((Fr.refl _).alloc _)).keep ((Fr.refl _).alloc _)).keep hf;obtain ⟨_,x0,x1,x2,x3⟩:=ht;have HBZ:Hid (Blk w1 (w.heap.size+1) #[.int .i64 0,.int .i64 0,.string ⟨#[]⟩,.slice none 0 0,.slice none 0 0] 25):=Lib.hid (((boxz (Blk.made (w.alloc (.cells #[.int .i64 1,.int .i64 n,.string ⟨#[123]⟩,.int .i64 (a:Nat)] 88)) #[.int .i64 0,.int .i64 0,.string ⟨#[]⟩,.slice none 0 0,.slice none 0 0] 25)).keep ((Fr.refl _).alloc _)).keep hf);have HBY:Hid (Blk w1 (w.heap.size+1+1) #[.int .i64 0,.int .i64 0,.string ⟨#[]⟩,.slice none 0 0,.slice none 0 0] 25):=Lib.hid ((boxy (Blk.made ((w.alloc (.cells #[.int .i64 1,.int .i64 n,.string ⟨#[123]⟩,.int .i64 (a:Nat)] 88)).alloc (.cells #[.int .i64 0,.int .i64 0,.string ⟨#[]⟩,.slice none 0 0,.slice none 0 0] 25)) #[.int .i64 0,.int .i64 0,.string ⟨#[]⟩,.slice none 0 0,.slice none 0 0] 25)).keep hf);have y0:=HBY.out.cell 0;have yf:=HBY.out.free 0;have r2:=(h1.cell hlt.out).trans c2;have rf:=(h1.frozen hlt.out).trans f2;have HF1:=Lib.hid h1;have HFA:=Lib.hid hf;clear h1 hf;clear hm hf')
   | (go_at_call 70;refine (is_is ⟨1,n,[123],a⟩ 91 _ false rfl).mono ?_;rintro x w0 ⟨rfl,hf⟩;have ht:=(((TB.made w ⟨1,n,[123],a⟩).keep ((Fr.refl _).alloc _)).keep ((Fr.refl _).alloc _)).keep hf;obtain ⟨_,u0,u1,u2,u3⟩:=ht;have HF0:=Lib.hid hf;clear hf))
  have hz7:Blk (w6.setCell ⟨w.heap.size+1+1,4,none⟩ (.slice sa ls.length sc)) (w.heap.size+1) #[.int .i64 0,.int .i64 0,.string ⟨#[]⟩,.slice none 0 0,.slice none 0 0] 25:=HZ6.out.other (by show w.heap.size+1+1≠w.heap.size+1;omega) _
  refine bodyPost_ret (results_cell_row (by rfl) _ _ (w.heap.size+1) 25 _ (0,0) _ (by rfl) (set5 hz7) Tryz.underlying25 rfl (by kernel_rfl)) rfl ?_
  have hRw:∀ j,R<(Addr.mk (w.heap.size+1) j none).block:=fun j=>(by show R<w.heap.size+1;have:=hlt.out;omega)
  have hRy:R<(Addr.mk (w.heap.size+1+1) 4 none).block:=by show R<w.heap.size+1+1;have:=hlt.out;omega
  have hSw:∀ j,w.heap.size≤(Addr.mk (w.heap.size+1) j none).block:=fun j=>(by show w.heap.size≤w.heap.size+1;omega)
  have hSy:∀ j,w.heap.size≤(Addr.mk (w.heap.size+1+1) j none).block:=fun j=>(by show w.heap.size≤w.heap.size+1+1;omega)
  have hbg:w.heap.size+3≤((w1.setCell ⟨w.heap.size+1+1,0,none⟩ (.int .i64 6)).setCell ⟨R,2,none⟩ (.int .i64 ((p:Int)+1))).heap.size:=by have:=HFA.out.size;simpa [World.setCell] using this
  have hin:=(HVS.out.inV (by have:=HLN.out;omega)).map (S':=Be w.heap.size w6.heap.size) (fun b hb=>⟨by have:=hb.1;omega,hb.2⟩) (w':=(((((w6.setCell ⟨w.heap.size+1+1,4,none⟩ (.slice sa ls.length sc)).setCell ⟨w.heap.size+1,0,none⟩ (.int .i64 6)).setCell ⟨w.heap.size+1,1,none⟩ (.int .i64 0)).setCell ⟨w.heap.size+1,2,none⟩ (.string ⟨#[]⟩)).setCell ⟨w.heap.size+1,3,none⟩ (.slice none 0 0)).setCell ⟨w.heap.size+1,4,none⟩ (.slice sa ls.length sc)) (fun b o hb=>by
   have h3:=hb.1
   have n1:b≠w.heap.size+1:=by omega
   have n2:b≠w.heap.size+1+1:=by omega
   simp only [World.cell?]
   rw [Below.heap_setCell _ _ _ _ n1,Below.heap_setCell _ _ _ _ n1,Below.heap_setCell _ _ _ _ n1,Below.heap_setCell _ _ _ _ n1,Below.heap_setCell _ _ _ _ n1,Below.heap_setCell _ _ _ _ n2])
  refine ⟨_,rfl,⟨hin.more (fun b hb=>⟨hb.1,by simpa [World.setCell] using hb.2⟩),⟨_,_,_,none,0,0,sa,_,sc,rfl,Sft.none_ _,((((((HVS.out.sft.set _ _).set _ _).set _ _).set _ _).set _ _).set _ _)⟩⟩,?_,?_⟩
  ·exact (((((HR6.out.setY hRy _).setY (hRw _) _).setY (hRw _) _).setY (hRw _) _).setY (hRw _) _).setY (hRw _) _
  ·exact (((((((((FrX.of HF1.out).setNew (hSy _) _).setCell rfl _).trans HF6.out).setNew (hSy _) _).setNew (hSw _) _).setNew (hSw _) _).setNew (hSw _) _).setNew (hSw _) _).setNew (hSw _) _

theorem value_is:∀ f,ValAt f:=by
 intro f
 induction f using Nat.strongRecOn with
 | _ f ih=>
  cases f with
  | zero=>intro R e t l d p w _ _ _ _ _ hne;exact absurd (by unfold Rd.rdV;rfl) hne
  | succ f=>
   intro R e t l d p w h hp hd ht hl hne
   obtain ⟨k,n,s,a⟩:=t
   by_cases hb:Rd.leaf ⟨k,n,s,a⟩=none∧Rd.isM ⟨k,n,s,a⟩ 91=false∧Rd.isM ⟨k,n,s,a⟩ 123=false
   ·exact value_bad f R e _ l d p w h hb
   by_cases h4:k=4
   ·subst h4;exact value_text f R e n s a l d p w h hp ht.1
   by_cases h3:k=3
   ·subst h3;exact value_num f R e n s a l d p w h hp ht.2.1 ht.2.2
   by_cases h2:k=2
   ·subst h2
    by_cases h5:s=JV.tNull
    ·subst h5;exact value_null f R e n a l d p w h hp
    by_cases h6:s=JV.tTrue
    ·subst h6;exact value_true f R e n a l d p w h hp
    ·exact value_word f R e n s a l d p w h hp h5 h6
   have hlf:Rd.leaf ⟨k,n,s,a⟩=none:=by simp [Rd.leaf,h2,h3,h4]
   by_cases h7:Rd.isM ⟨k,n,s,a⟩ 91=true
   ·obtain ⟨rfl,rfl⟩:k=1∧s=[91]:=by simpa [Rd.isM] using h7
    exact value_list f (fun g hg=>ih g (by omega)) R e n a l d p w h hp hl hne
   ·have h7:Rd.isM ⟨k,n,s,a⟩ 91=false:=by simpa using h7
    have h8:Rd.isM ⟨k,n,s,a⟩ 123=true:=by
     cases h:Rd.isM ⟨k,n,s,a⟩ 123 with
     | true=>rfl
     | false=>exact absurd ⟨hlf,h7,h⟩ hb
    obtain ⟨rfl,rfl⟩:k=1∧s=[123]:=by simpa [Rd.isM] using h8
    exact value_map f (fun g hg=>ih g (by omega)) R e n a l d p w h hp hl hne
end Go.Proofs.YtdhakbghdcfncaaGreatDoor
