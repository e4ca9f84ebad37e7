/- Chapter 25: the document's Parse: too long, no JSON. -/
import Derived.Test.YtockgemmkjdnkaaGreatDoorEvl
import Derived.Test.YtockgemmkjdnkaaGreatDoorEva
import Derived.Test.YtockgemmkjdnkaaGreatDoorEvo
import Derived.Test.YtockgemmkjdnkaaGreatDoorRpe
import Derived.Test.YtockgemmkjdnkaaGreatDoorPtV
import Derived.Deep.RegionHeld
import Derived.Test.YtockgemmkjdnkaaGreatDoorEvk
import Derived.Test.YtockgemmkjdnkaaGreatDoorIdt
import Derived.Deep.CutRange
import Derived.Test.YtockgemmkjdnkaaGreatDoorEvp
set_option maxRecDepth 100000
set_option maxHeartbeats 8000000
set_option linter.unusedVariables false
set_option linter.unusedSimpArgs false
namespace Go.Proofs.YtockgemmkjdnkaaGreatDoor
open Go.RowKit

theorem results_rq {fn:Func} {p q:Tmp} {t1 t2:TypeId} (hf:fn.results=#[.cell p t1,.cell q t2]) (h1:t1=32) (h2:t2=29) (w:World) (X Y:Nat) {tmps:Array Value} (hp:tmps.getD p undef=.pointer (some ⟨X,0,none⟩)) (hq:tmps.getD q undef=.pointer (some ⟨Y,0,none⟩))
  (a b c d v0 v1 v2 v3 v4:Value) (hX:Blk w X #[a,b,c,d] 32) (hY:Blk w Y #[v0,v1,v2,v3,v4] 29):
  (results fn tmps).run Tryz.prog w=.ok (.tuple #[.agg #[a,b,c,d],.agg #[v0,v1,v2,v3,v4]]) w:=by
 subst h1;subst h2;have x0:=hX.cell 0;have x1:=hX.cell 1;have x2:=hX.cell 2;have x3:=hX.cell 3;have a0:=hY.cell 0;have a1:=hY.cell 1;have a2:=hY.cell 2;have a3:=hY.cell 3;have a4:=hY.cell 4;simp at hp hq x0 x1 x2 x3 a0 a1 a2 a3 a4;simp [results,hf,hp,hq,go_sem,x0,x1,x2,x3,a0,a1,a2,a3,a4]

def RqP (w:World):Pt.Pa->Ending->World->Prop
 | .bad K L,e,w'=>(∃ (D:Option Addr) (g:Nat),e=.returned (.tuple #[.agg #[.slice none 0 0,.slice none 0 0,.slice none 0 0,.bool false],.agg #[.int .i64 6,.int .i64 0,.string ⟨#[]⟩,.slice none 0 0,.slice D (Pt.prM K L).length g]])/\MsB w' 0 w.heap.size (.slice D (Pt.prM K L).length g) (Pt.prM K L))/\Fr w w'
 | .ok r,e,w'=>(∃ (us cs crs:Value) (S:Nat->Prop) (Z:Nat),e=.returned (.tuple #[.agg #[us,cs,crs,.bool r.2.2],.agg #[.int .i64 0,.int .i64 0,.string ⟨#[]⟩,.slice none 0 0,.slice none 0 0]])/\Z<=w'.heap.size/\Ssl w' Z us r.1.1/\CsB w' S Z cs r.1.2/\MsB w' 0 Z crs r.2.1)/\Fr w w'
theorem prq_bad {w W w5:World} {X Y:Nat} {a b c d v0 v1 v2 v3 v4:Value} {K L:List UInt8} {D:Option Addr} {n g:Nat} (hn:n=(Pt.prM K L).length) (hXY:Y≠X) (hX:w.heap.size<=X/\X<W.heap.size) (hY:w.heap.size<=Y/\Y<W.heap.size) (hx:Blk w5 X #[a,b,c,d] 32) (hy:Blk w5 Y #[v0,v1,v2,v3,v4] 29) (hf:Fr w W) (h5:Fr W w5) (hm:MsB w5 0 W.heap.size (.slice D n g) (Pt.prM K L)):
  Blk (st5 (st4 w5 X (.slice none 0 0) (.slice none 0 0) (.slice none 0 0) (.bool false)) Y (.int .i64 6) (.int .i64 0) (.string ⟨#[]⟩) (.slice none 0 0) (.slice D n g)) X #[.slice none 0 0,.slice none 0 0,.slice none 0 0,.bool false] 32 /\
  Blk (st5 (st4 w5 X (.slice none 0 0) (.slice none 0 0) (.slice none 0 0) (.bool false)) Y (.int .i64 6) (.int .i64 0) (.string ⟨#[]⟩) (.slice none 0 0) (.slice D n g)) Y #[.int .i64 6,.int .i64 0,.string ⟨#[]⟩,.slice none 0 0,.slice D n g] 29 /\
  RqP w (.bad K L) (.returned (.tuple #[.agg #[.slice none 0 0,.slice none 0 0,.slice none 0 0,.bool false],.agg #[.int .i64 6,.int .i64 0,.string ⟨#[]⟩,.slice none 0 0,.slice D n g]])) (st5 (st4 w5 X (.slice none 0 0) (.slice none 0 0) (.slice none 0 0) (.bool false)) Y (.int .i64 6) (.int .i64 0) (.string ⟨#[]⟩) (.slice none 0 0) (.slice D n g)):=by
 subst hn;refine ⟨(st4_x hx _ _ _ _).frx (st5_frx _ _ _ _ _ _ _) (λe=>hXY e.symm),st5_x (hy.frx (st4_frx _ _ _ _ _ _) hXY) _ _ _ _ _,⟨D,g,rfl,?_⟩,st5_fr (st4_fr (hf.trans h5) hX.1 _ _ _ _) hY.1 _ _ _ _ _⟩;exact ((hm.frx (Nat.zero_le _) hX.2 (st4_frx _ _ _ _ _ _)).frx (Nat.zero_le _) hY.2 (st5_frx _ _ _ _ _ _ _)).lower (Nat.zero_le _) hf.size

theorem rprob (K L:List UInt8) (hK:K.length<=1000) (hL:L.length<=1000) (n:Nat) (hn:n=(Pt.prM K L).length) (w:World):
  Calls Tryz.prog 18 #[.string ⟨K.toArray⟩,.string ⟨L.toArray⟩] w λe w'=>∃ (D:Option Addr) (g:Nat),e=.returned (.agg #[.int .i64 6,.int .i64 0,.string ⟨#[]⟩,.slice none 0 0,.slice D n g])/\MsB w' 0 w.heap.size (.slice D n g) (Pt.prM K L)/\Fr w w':=by
 refine (rproblem_is ⟨K.toArray⟩ ⟨L.toArray⟩ w (by simp [ByteArray.size];omega) (by simp [ByteArray.size];omega) n ?_).mono ?_
 ·rw [hn];unfold Pt.prM;show _=if L=[] then 2 else 3;split <;> rfl
 ·rintro e w' ⟨⟨D,g,he,hm,_⟩,hf⟩;exact ⟨D,g,he,hm,hf⟩

theorem rparse_big (s:ByteArray) (w:World) (hs:s.size<=140737488351232) (hb:65536<s.size):Calls Tryz.prog 8 #[.string s] w (RqP w (.bad Pt.kLim Pt.kSize)):=by
 have hs':(s.size:Int)<=140737488351232:=by omega
 have hb':(65536:Int)<(s.size:Int):=by omega
 have HP1:Hid (∀ W:World,Calls Tryz.prog 18 #[.string ⟨#[108,105,109,105,116]⟩,.string ⟨#[109,97,120,83,105,122,101,82,101,113,117,101,115,116]⟩] W λe w'=>∃ (D:Option Addr) (g:Nat),e=.returned (.agg #[.int .i64 6,.int .i64 0,.string ⟨#[]⟩,.slice none 0 0,.slice D 3 g])/\MsB w' 0 W.heap.size (.slice D 3 g) (Pt.prM Pt.kLim Pt.kSize)/\Fr W w'):=LH (λW=>rprob Pt.kLim Pt.kSize (by decide) (by decide) 3 rfl W);clear hs hb;go_enter Tryz.func8,Tryz.ntmps8
 go_upto_region 2 with fail
 have hx0:Blk (((w.alloc (.cells #[.slice none 0 0,.slice none 0 0,.slice none 0 0,.bool false] 32)).alloc (.cells #[.int .i64 0,.int .i64 0,.string ⟨#[]⟩,.slice none 0 0,.slice none 0 0] 29)).alloc (.cells #[.slice none 0 0,.slice none 0 0,.slice none 0 0,.bool false] 32)) w.heap.size #[.slice none 0 0,.slice none 0 0,.slice none 0 0,.bool false] 32:=((Blk.made w _ _).keep ((FR _).alloc _)).keep ((FR _).alloc _);have hy0:Blk (((w.alloc (.cells #[.slice none 0 0,.slice none 0 0,.slice none 0 0,.bool false] 32)).alloc (.cells #[.int .i64 0,.int .i64 0,.string ⟨#[]⟩,.slice none 0 0,.slice none 0 0] 29)).alloc (.cells #[.slice none 0 0,.slice none 0 0,.slice none 0 0,.bool false] 32)) (w.heap.size+1) #[.int .i64 0,.int .i64 0,.string ⟨#[]⟩,.slice none 0 0,.slice none 0 0] 29:=(boxz (Blk.made (w.alloc _) _ _)).keep ((FR _).alloc _);have hn0:Blk (((w.alloc (.cells #[.slice none 0 0,.slice none 0 0,.slice none 0 0,.bool false] 32)).alloc (.cells #[.int .i64 0,.int .i64 0,.string ⟨#[]⟩,.slice none 0 0,.slice none 0 0] 29)).alloc (.cells #[.slice none 0 0,.slice none 0 0,.slice none 0 0,.bool false] 32)) (w.heap.size+1+1) #[.slice none 0 0,.slice none 0 0,.slice none 0 0,.bool false] 32:=boxy (Blk.made ((w.alloc _).alloc _) _ _);have hf0:Fr w (((w.alloc (.cells #[.slice none 0 0,.slice none 0 0,.slice none 0 0,.bool false] 32)).alloc (.cells #[.int .i64 0,.int .i64 0,.string ⟨#[]⟩,.slice none 0 0,.slice none 0 0] 29)).alloc (.cells #[.slice none 0 0,.slice none 0 0,.slice none 0 0,.bool false] 32)):=(((FR w).alloc _).alloc _).alloc _;generalize (((w.alloc (.cells #[.slice none 0 0,.slice none 0 0,.slice none 0 0,.bool false] 32)).alloc (.cells #[.int .i64 0,.int .i64 0,.string ⟨#[]⟩,.slice none 0 0,.slice none 0 0] 29)).alloc (.cells #[.slice none 0 0,.slice none 0 0,.slice none 0 0,.bool false] 32))=W0 at hx0 hy0 hn0 hf0 ⊢;have hX:∃ X,w.heap.size=X:=⟨_,rfl⟩;have hY:∃ Y,w.heap.size+1=Y:=⟨_,rfl⟩;have hN:∃ N,w.heap.size+1+1=N:=⟨_,rfl⟩;obtain ⟨N,hN⟩:=hN;rw [hN] at hn0 ⊢;obtain ⟨Y,hY⟩:=hY;rw [hY] at hy0 hN ⊢;obtain ⟨X,hX⟩:=hX;rw [hX] at hx0 hY ⊢;have HXw:Hid (w.heap.size<=X):=LH (by omega);have HYw:Hid (w.heap.size<=Y):=LH (by omega);have hXY:Hid (Y≠X):=LH (by omega);have nXY:¬ X=Y:=by omega
 have nYX:¬ Y=X:=by omega
 have nNX:N≠X:=by omega
 have nNY:N≠Y:=by omega
 have nXN:¬ X=N:=by omega
 have nYN:¬ Y=N:=by omega
 clear hX hY hN;have HNS:Hid (∀ W:World,Blk W N #[.slice none 0 0,.slice none 0 0,.slice none 0 0,.bool false] 32->W.cell? ⟨N,0,none⟩=some (.slice none 0 0)/\W.cell? ⟨N,1,none⟩=some (.slice none 0 0)/\W.cell? ⟨N,2,none⟩=some (.slice none 0 0)/\W.cell? ⟨N,3,none⟩=some (.bool false)):=LH (λW h=>⟨h.cell 0,h.cell 1,h.cell 2,h.cell 3⟩);have HX0:=LH hx0;have HY0:=LH hy0;have HN0:=LH hn0;have HF0:=LH hf0;clear hx0 hy0 hn0 hf0;have HX9:=HX0;have HY9:=HY0;have HN9:=HN0;have HW9:=HF0;go_upto_region 3 with fail
 refine wp_region_held_drew (S:=(λW=>W.cell? ⟨N,0,none⟩=some (.slice none 0 0)/\W.cell? ⟨N,1,none⟩=some (.slice none 0 0)/\W.cell? ⟨N,2,none⟩=some (.slice none 0 0)/\W.cell? ⟨N,3,none⟩=some (.bool false))) (by kernel_rfl) ?_ (λhHeld=>?_)
 ·exact HNS.out _ (HN9.out.keep (FR W0).drew)
 refine tq 0 rfl hHeld ?_;try simp only [Act.put,fl]
 refine rq 1 rfl (λK hK=>?_);go_simp
 (go_at_call 18;refine (HP1.out _).mono ?_;rintro e w5 ⟨D,g,rfl,hm,hf⟩;have hf5:=(FR W0).drew.trans hf;obtain ⟨⟨r0,r1,r2,r3⟩,rf0,rf1,rf2,rf3⟩:=box4r (HX9.out.keep hf5);obtain ⟨⟨y0,y1,y2,y3,y4⟩,yf0,yf1,yf2,yf3,yf4⟩:=box5 (HY9.out.keep hf5);have HM5:=LH (hm.lower (Nat.zero_le _) (lR _));have HN5:=LH (HN9.out.keep hf5);have HF5:=LH hf5;clear hm hf hf5)
 try (refine hK.out _ _ ?_ (λhHeld2=>?_))
 ·exact HNS.out _ HN5.out
 clear hK K;try simp only [Act.put,fl]
 refine rq 2 rfl (λK hK=>?_);go_simp
 refine hK.out _ _ (HNS.out _ (HN5.out.frx (st4_frx _ X _ _ _ _) nNX)) (λhH3=>?_);clear hK K;try simp only [Act.put,fl]
 refine rq 3 rfl (λK hK=>?_);go_simp
 refine hK.out _ _ (HNS.out _ ((HN5.out.frx (st4_frx _ X _ _ _ _) nNX).frx (st5_frx _ Y _ _ _ _ _) nNY)) (λhH4=>?_);clear hK K;try simp only [Act.put,fl]
 refine wpAnyH_done (by kernel_rfl) ?_ _;go_wp2_with fail
 obtain ⟨h1,h2,h3⟩:=prq_bad (K:=Pt.kLim) (L:=Pt.kSize) (n:=3) rfl hXY.out ⟨HXw.out,HX9.out.lt⟩ ⟨HYw.out,HY9.out.lt⟩ (HX9.out.keep HF5.out) (HY9.out.keep HF5.out) HW9.out HF5.out HM5.out;exact bodyPost_ret (results_rq (by rfl) rfl rfl _ X Y (by rfl) (by rfl) _ _ _ _ _ _ _ _ _ h1 h2) rfl h3

theorem rparse_no (s:ByteArray) (a c:Nat) (w:World) (hs:s.size<=65536) (hT:PtTab w) (h:Rd.rdS s.data.toList=.bad a c):Calls Tryz.prog 8 #[.string s] w (RqP w (.bad Pt.kJson [])):=by
 have hs':(s.size:Int)<=65536:=by omega
 have e2:(((c:Nat):Int) != 0)=true:=by have:=(Rd.rdS_place h).2;rw [bne_iff_ne];omega
 have HT:=LH hT;have H2:=LH h;have HS:Hid (s.size<=9223372036854775807):=LH (by omega);have HP1:Hid (∀ W:World,Calls Tryz.prog 18 #[.string ⟨#[110,111,116,74,83,79,78]⟩,.string ⟨#[]⟩] W λe w'=>∃ (D:Option Addr) (g:Nat),e=.returned (.agg #[.int .i64 6,.int .i64 0,.string ⟨#[]⟩,.slice none 0 0,.slice D 2 g])/\MsB w' 0 W.heap.size (.slice D 2 g) (Pt.prM Pt.kJson [])/\Fr W w'):=LH (λW=>rprob Pt.kJson [] (by decide) (by decide) 2 rfl W);clear hs hT h;go_enter Tryz.func8,Tryz.ntmps8
 go_upto_region 2 with fail
 have hx0:Blk (((w.alloc (.cells #[.slice none 0 0,.slice none 0 0,.slice none 0 0,.bool false] 32)).alloc (.cells #[.int .i64 0,.int .i64 0,.string ⟨#[]⟩,.slice none 0 0,.slice none 0 0] 29)).alloc (.cells #[.slice none 0 0,.slice none 0 0,.slice none 0 0,.bool false] 32)) w.heap.size #[.slice none 0 0,.slice none 0 0,.slice none 0 0,.bool false] 32:=((Blk.made w _ _).keep ((FR _).alloc _)).keep ((FR _).alloc _);have hy0:Blk (((w.alloc (.cells #[.slice none 0 0,.slice none 0 0,.slice none 0 0,.bool false] 32)).alloc (.cells #[.int .i64 0,.int .i64 0,.string ⟨#[]⟩,.slice none 0 0,.slice none 0 0] 29)).alloc (.cells #[.slice none 0 0,.slice none 0 0,.slice none 0 0,.bool false] 32)) (w.heap.size+1) #[.int .i64 0,.int .i64 0,.string ⟨#[]⟩,.slice none 0 0,.slice none 0 0] 29:=(boxz (Blk.made (w.alloc _) _ _)).keep ((FR _).alloc _);have hn0:Blk (((w.alloc (.cells #[.slice none 0 0,.slice none 0 0,.slice none 0 0,.bool false] 32)).alloc (.cells #[.int .i64 0,.int .i64 0,.string ⟨#[]⟩,.slice none 0 0,.slice none 0 0] 29)).alloc (.cells #[.slice none 0 0,.slice none 0 0,.slice none 0 0,.bool false] 32)) (w.heap.size+1+1) #[.slice none 0 0,.slice none 0 0,.slice none 0 0,.bool false] 32:=boxy (Blk.made ((w.alloc _).alloc _) _ _);have hf0:Fr w (((w.alloc (.cells #[.slice none 0 0,.slice none 0 0,.slice none 0 0,.bool false] 32)).alloc (.cells #[.int .i64 0,.int .i64 0,.string ⟨#[]⟩,.slice none 0 0,.slice none 0 0] 29)).alloc (.cells #[.slice none 0 0,.slice none 0 0,.slice none 0 0,.bool false] 32)):=(((FR w).alloc _).alloc _).alloc _;generalize (((w.alloc (.cells #[.slice none 0 0,.slice none 0 0,.slice none 0 0,.bool false] 32)).alloc (.cells #[.int .i64 0,.int .i64 0,.string ⟨#[]⟩,.slice none 0 0,.slice none 0 0] 29)).alloc (.cells #[.slice none 0 0,.slice none 0 0,.slice none 0 0,.bool false] 32))=W0 at hx0 hy0 hn0 hf0 ⊢;have hX:∃ X,w.heap.size=X:=⟨_,rfl⟩;have hY:∃ Y,w.heap.size+1=Y:=⟨_,rfl⟩;have hN:∃ N,w.heap.size+1+1=N:=⟨_,rfl⟩;obtain ⟨N,hN⟩:=hN;rw [hN] at hn0 ⊢;obtain ⟨Y,hY⟩:=hY;rw [hY] at hy0 hN ⊢;obtain ⟨X,hX⟩:=hX;rw [hX] at hx0 hY ⊢;have HXw:Hid (w.heap.size<=X):=LH (by omega);have HYw:Hid (w.heap.size<=Y):=LH (by omega);have hXY:Hid (Y≠X):=LH (by omega);have nXY:¬ X=Y:=by omega
 have nYX:¬ Y=X:=by omega
 have nNX:N≠X:=by omega
 have nNY:N≠Y:=by omega
 have nXN:¬ X=N:=by omega
 have nYN:¬ Y=N:=by omega
 clear hX hY hN;have HNS:Hid (∀ W:World,Blk W N #[.slice none 0 0,.slice none 0 0,.slice none 0 0,.bool false] 32->W.cell? ⟨N,0,none⟩=some (.slice none 0 0)/\W.cell? ⟨N,1,none⟩=some (.slice none 0 0)/\W.cell? ⟨N,2,none⟩=some (.slice none 0 0)/\W.cell? ⟨N,3,none⟩=some (.bool false)):=LH (λW h=>⟨h.cell 0,h.cell 1,h.cell 2,h.cell 3⟩);have HX0:=LH hx0;have HY0:=LH hy0;have HN0:=LH hn0;have HF0:=LH hf0;clear hx0 hy0 hn0 hf0;go_upto_region 6 with (go_at_call 31;refine (pread_b s a c _ HS.out (HT.out.keep HF0.out) H2.out).mono ?_;rintro e w1 ⟨rfl,hf⟩;have HF4:Hid (Fr W0 (w1.alloc (.cells #[.int .i64 0,.int .i64 0,.string ⟨#[]⟩,.slice none 0 0,.slice none 0 0] 29))):=LH (hf.alloc _);clear hf)
 generalize (w1.alloc (.cells #[.int .i64 0,.int .i64 0,.string ⟨#[]⟩,.slice none 0 0,.slice none 0 0] 29))=W9 at HF4 ⊢;have HX9:=LH (HX0.out.keep HF4.out);have HY9:=LH (HY0.out.keep HF4.out);have HN9:=LH (HN0.out.keep HF4.out);have HW9:=LH (HF0.out.trans HF4.out);refine wp_region_held_drew (S:=(λW=>W.cell? ⟨N,0,none⟩=some (.slice none 0 0)/\W.cell? ⟨N,1,none⟩=some (.slice none 0 0)/\W.cell? ⟨N,2,none⟩=some (.slice none 0 0)/\W.cell? ⟨N,3,none⟩=some (.bool false))) (by kernel_rfl) ?_ (λhHeld=>?_)
 ·exact HNS.out _ (HN9.out.keep (FR W9).drew)
 refine tq 0 rfl hHeld ?_;try simp only [Act.put,fl]
 refine rq 1 rfl (λK hK=>?_);go_simp
 (go_at_call 18;refine (HP1.out _).mono ?_;rintro e w5 ⟨D,g,rfl,hm,hf⟩;have hf5:=(FR W9).drew.trans hf;obtain ⟨⟨r0,r1,r2,r3⟩,rf0,rf1,rf2,rf3⟩:=box4r (HX9.out.keep hf5);obtain ⟨⟨y0,y1,y2,y3,y4⟩,yf0,yf1,yf2,yf3,yf4⟩:=box5 (HY9.out.keep hf5);have HM5:=LH (hm.lower (Nat.zero_le _) (lR _));have HN5:=LH (HN9.out.keep hf5);have HF5:=LH hf5;clear hm hf hf5)
 try (refine hK.out _ _ ?_ (λhHeld2=>?_))
 ·exact HNS.out _ HN5.out
 clear hK K;try simp only [Act.put,fl]
 refine rq 2 rfl (λK hK=>?_);go_simp
 refine hK.out _ _ (HNS.out _ (HN5.out.frx (st4_frx _ X _ _ _ _) nNX)) (λhH3=>?_);clear hK K;try simp only [Act.put,fl]
 refine rq 3 rfl (λK hK=>?_);go_simp
 refine hK.out _ _ (HNS.out _ ((HN5.out.frx (st4_frx _ X _ _ _ _) nNX).frx (st5_frx _ Y _ _ _ _ _) nNY)) (λhH4=>?_);clear hK K;try simp only [Act.put,fl]
 refine wpAnyH_done (by kernel_rfl) ?_ _;go_wp2_with fail
 obtain ⟨h1,h2,h3⟩:=prq_bad (K:=Pt.kJson) (L:=[]) (n:=2) rfl hXY.out ⟨HXw.out,HX9.out.lt⟩ ⟨HYw.out,HY9.out.lt⟩ (HX9.out.keep HF5.out) (HY9.out.keep HF5.out) HW9.out HF5.out HM5.out;exact bodyPost_ret (results_rq (by rfl) rfl rfl _ X Y (by rfl) (by rfl) _ _ _ _ _ _ _ _ _ h1 h2) rfl h3
/- Chapter 25: the document's Parse, of a text that can be read. -/

theorem get7S (v:JV) (B:Option Addr) (d:Nat) (B':Option Addr) (d':Nat) (s:List UInt8) (w:World) (S:Nat->Prop) (hS:∀ b,S b->b<w.heap.size) (h:InV w S v (vA v B d B' d')):
  Calls Tryz.prog 32 #[.agg #[.int .i64 v.kd,.int .i64 v.nm,.string ⟨v.tx.toArray⟩,.slice B v.ls.length d,.slice B' v.ms.length d'],.string ⟨s.toArray⟩] w (OpS S w (Pt.get v s)):=by
 obtain ⟨A,c,A',c',he,_,hms⟩:=h.open_;have hA:B'=A':=by obtain ⟨_,_,_,_,e4⟩:=five he;injection e4
 subst hA;have hM:=h.facts.2.2.2.2;have hM':(v.ms.length:Int)<=140737488355328:=by omega
 have HMS:Hid (∀ W,Fr w W->MsC W S B' v.ms):=λW hW=>hms.map (λ_ h=>h) (λb o hb=>hW.cell (hS b hb))
 have HB0:Hid (Blk ((w.alloc (.cells #[.int .i64 v.kd,.int .i64 v.nm,.string ⟨v.tx.toArray⟩,.slice B v.ls.length d,.slice B' v.ms.length d'] 29)).alloc (.cells #[.int .i64 0,.int .i64 0,.string ⟨#[]⟩,.slice none 0 0,.slice none 0 0] 29)) w.heap.size #[.int .i64 v.kd,.int .i64 v.nm,.string ⟨v.tx.toArray⟩,.slice B v.ls.length d,.slice B' v.ms.length d'] 29):=(Blk.made w _ _).keep ((FR _).alloc _);have HZ0:Hid (Blk ((w.alloc (.cells #[.int .i64 v.kd,.int .i64 v.nm,.string ⟨v.tx.toArray⟩,.slice B v.ls.length d,.slice B' v.ms.length d'] 29)).alloc (.cells #[.int .i64 0,.int .i64 0,.string ⟨#[]⟩,.slice none 0 0,.slice none 0 0] 29)) (w.heap.size+1) #[.int .i64 0,.int .i64 0,.string ⟨#[]⟩,.slice none 0 0,.slice none 0 0] 29):=boxz (Blk.made (w.alloc _) _ _);have HF0:Hid (Fr w ((w.alloc (.cells #[.int .i64 v.kd,.int .i64 v.nm,.string ⟨v.tx.toArray⟩,.slice B v.ls.length d,.slice B' v.ms.length d'] 29)).alloc (.cells #[.int .i64 0,.int .i64 0,.string ⟨#[]⟩,.slice none 0 0,.slice none 0 0] 29))):=((FR w).alloc _).alloc _;clear h he hms;by_cases h6:v.kd=6
 ·have q6:(v.kd == 6)=true:=by rw [beq_iff_eq];exact h6
  rw [show Pt.get v s=Pt.getM v.ms s from by unfold Pt.get;exact if_pos h6];clear h6;go_enter Tryz.func32,Tryz.ntmps32
  go_wp2_with fail
  go_loopw [6] (λj wr=>∃ i:Nat,i<=v.ms.length/\j=.int .i64 i/\Hid (∀ y (hy:y<v.ms.length),y<i->v.ms[y].1≠s)/\Hid (Blk wr w.heap.size #[.int .i64 v.kd,.int .i64 v.nm,.string ⟨v.tx.toArray⟩,.slice B v.ls.length d,.slice B' v.ms.length d'] 29)/\Hid (Blk wr (w.heap.size+1) #[.int .i64 0,.int .i64 0,.string ⟨#[]⟩,.slice none 0 0,.slice none 0 0] 29)/\Hid (Fr w wr)) (λj _=>v.ms.length - (intOf j).toNat)
  case atStart=>exact ⟨0,by omega,rfl,LH (λy _ h=>absurd h (by omega)),HB0,HZ0,HF0⟩
  case round=>
   obtain ⟨i,hi,rfl,hD,hB,hZz,hF⟩:=hrel;obtain ⟨⟨x0,x1,x2,x3,x4⟩,_⟩:=box5 hB.out;obtain ⟨⟨y0,y1,y2,y3,y4⟩,g0,g1,g2,g3,g4⟩:=box5 hZz.out;by_cases hlt:i<v.ms.length
   ·have hlt':(i:Int)<(v.ms.length:Int):=by omega
    obtain ⟨b,o,C,e,C',e',rfl,hb,hnl,c0,⟨c1,c2,c3,c4,c5⟩,hiv⟩:=HMS.out _ hF.out i hlt;obtain ⟨nt,hnt⟩:∃ nt,v.ms[i].1=nt:=⟨_,rfl⟩;rw [hnt] at c0 hnl;have HNT:=LH hnt;clear hnt;by_cases hc:nt=s
    ·have hres:=Pt.getM_hit hlt hD.out (HNT.out.trans hc);obtain ⟨u,hu⟩:∃ u,v.ms[i].2=u:=⟨_,rfl⟩;rw [hu] at c1 c2 c3 c4 c5 hiv hres;rw [hres];have HV:=LH hiv;subst hc;have hcmp:((⟨nt.toArray⟩:ByteArray).toList == (⟨nt.toArray⟩:ByteArray).toList)=true:=beq_self_eq_true _;clear hiv hres hu;go_wp2_with fail
     refine bodyPost_ret (results_cs (by rfl) rfl _ (w.heap.size+1) (by rfl) (by rfl) _ _ _ _ _ (set5 hZz.out)) rfl ?_;have hfin:=hF.out.put5 (X:=w.heap.size+1) (Nat.le_succ _) (.int .i64 u.kd) (.int .i64 u.nm) (.string ⟨u.tx.toArray⟩) (.slice C u.ls.length e) (.slice C' u.ms.length e');refine ⟨C,e,C',e',rfl,HV.out.map (λ_ h=>h) (λb o hb=>?_),hfin⟩;have hb:=hS b hb;rw [hfin.cell (by omega),hF.out.cell (by omega)]
    ·have hcmp:((⟨nt.toArray⟩:ByteArray).toList == (⟨s.toArray⟩:ByteArray).toList)=false:=by rw [bl_beq'];exact dF hc
     have hcmp2:(nt == s)=false:=by rw [beq_eq_false_iff_ne];exact hc
     have HCN:=LH hc;clear hc;go_wp2_with fail
     exact ⟨⟨i+1,by omega,by go_num,LH (λy hy hyt=>by
      by_cases e:y=i
      ·subst e;rw [HNT.out];exact HCN.out
      ·exact hD.out y hy (by omega)),hB,hZz,hF⟩,by simp [intOf];omega⟩
   ·have hnone:Hid (Pt.getM v.ms s=none):=Pt.getM_none (λy hy=>hD.out y hy (by omega));go_wp2_with fail
    refine bodyPost_ret (results_cs (by rfl) rfl _ (w.heap.size+1) (by rfl) (by rfl) _ _ _ _ _ (set5 hZz.out)) rfl ?_;show OpS S w (Pt.getM v.ms s) _ _;rw [hnone.out];exact ⟨rfl,hF.out.put5 (X:=w.heap.size+1) (Nat.le_succ _) _ _ _ _ _⟩
 ·have q6:(v.kd == 6)=false:=(ikind h6).1;rw [show Pt.get v s=none from by unfold Pt.get;exact if_neg h6];clear h6;go_enter Tryz.func32,Tryz.ntmps32
  go_wp2_with fail
  go_loopw [6] (λj wr=>j=.int .i64 0/\Hid (Blk wr w.heap.size #[.int .i64 v.kd,.int .i64 v.nm,.string ⟨v.tx.toArray⟩,.slice B v.ls.length d,.slice B' v.ms.length d'] 29)/\Hid (Blk wr (w.heap.size+1) #[.int .i64 0,.int .i64 0,.string ⟨#[]⟩,.slice none 0 0,.slice none 0 0] 29)/\Hid (Fr w wr)) (λ_ _=>0)
  case atStart=>exact ⟨rfl,HB0,HZ0,HF0⟩
  case round=>
   obtain ⟨rfl,hB,hZz,hF⟩:=hrel;obtain ⟨⟨x0,x1,x2,x3,x4⟩,_⟩:=box5 hB.out;obtain ⟨⟨y0,y1,y2,y3,y4⟩,g0,g1,g2,g3,g4⟩:=box5 hZz.out;have alt:(0:Int)<(v.ms.length:Int) \/ ¬ (0:Int)<(v.ms.length:Int):=by omega
   rcases alt with h0 | h0;all_goals
    go_wp2_with fail
    refine bodyPost_ret (results_cs (by rfl) rfl _ (w.heap.size+1) (by rfl) (by rfl) _ _ _ _ _ (set5 hZz.out)) rfl ?_;exact ⟨rfl,hF.out.put5 (X:=w.heap.size+1) (Nat.le_succ _) _ _ _ _ _⟩
theorem getz7 (v:JV) (B:Option Addr) (d:Nat) (B':Option Addr) (d':Nat) (s:List UInt8) (W:World) (S:Nat->Prop) (hS:∀ b,S b->b<W.heap.size) (h:InV W S v (vA v B d B' d')) (x:JV) (hx:Pt.getZ v s=x) (t:Bool) (ht:(Pt.get v s).isSome=t):
  Calls Tryz.prog 32 #[.agg #[.int .i64 v.kd,.int .i64 v.nm,.string ⟨v.tx.toArray⟩,.slice B v.ls.length d,.slice B' v.ms.length d'],.string ⟨s.toArray⟩] W λe w'=>(∃ (P:Option Addr) (p:Nat) (P':Option Addr) (p':Nat),e=.returned (.tuple #[.agg #[.int .i64 x.kd,.int .i64 x.nm,.string ⟨x.tx.toArray⟩,.slice P x.ls.length p,.slice P' x.ms.length p'],.bool t])/\InV w' S x (vA x P p P' p'))/\Fr W w':=by
 have h1:=get7S v B d B' d' s W S hS h;subst hx;subst ht
 cases hg:Pt.get v s with
 | none=>
  rw [hg] at h1;rw [Pt.getZ_no hg];refine h1.mono ?_;rintro e w' ⟨he,hf⟩;exact ⟨⟨none,0,none,0,he,zeroV_in w' _⟩,hf⟩
 | some y=>
  rw [hg] at h1;rw [Pt.getZ_of hg];refine h1.mono ?_;rintro e w' ⟨C,f,C',f',he,hin,hf⟩;exact ⟨⟨C,f,C',f',he,hin⟩,hf⟩
theorem Pt.cap_tx (l:List UInt8):Pt.cap ⟨l.toArray⟩=(l == ([117,114,110,58,105,101,116,102,58,112,97,114,97,109,115,58,106,109,97,112,58,99,111,114,101]:List UInt8) || l == ([117,114,110,58,105,101,116,102,58,112,97,114,97,109,115,58,106,109,97,112,58,99,111,110,116,97,99,116,115]:List UInt8)):=by
 unfold Pt.cap;rw [ByteArray.toList_eq]
theorem Pt.odd_app (l:List (List UInt8)) (s:List UInt8):Pt.odd (l++[s])=(Pt.odd l || !Pt.cap ⟨s.toArray⟩):=by
 unfold Pt.odd;rw [List.any_append];simp
theorem bool_left {a b:Bool} (h:true=(a && b)):a=true:=by cases a <;> simp_all
theorem bool_not {a:Bool} (h:true = !a):a=false:=by cases a <;> simp_all
theorem bool_not2 {a:Bool} (h:false = !a):a=true:=by cases a <;> simp_all
theorem Pt.badM_not (nm:List UInt8) (u:JV):(!Pt.badM (nm,u))=(u.kd == 4 && Idn.isId u.tx):=by
 unfold Pt.badM;simp [bne]
theorem Pt.fine_eq (v:JV):Pt.fine v=(((v.kd == 6 && ((Pt.getZ v Pt.nUsing).kd == 5 && ((Pt.getZ v Pt.nCalls).kd == 5 && (!(Pt.get v Pt.nIds).isSome || ((Pt.getZ v Pt.nIds).kd == 6 && decide ((Pt.getZ v Pt.nIds).ms.length<=256)))))) && Pt.allT (Pt.getZ v Pt.nUsing).ls && Pt.allC (Pt.getZ v Pt.nCalls).ls) && !((Pt.getZ v Pt.nIds).ms.any Pt.badM)):=by
 unfold Pt.fine Pt.okU Pt.okC Pt.okM
 cases hg:Pt.get v Pt.nIds with
 | none=>
  rw [Pt.getZ_no hg];simp only [JV.zeroV,JV.ms,List.any_nil,Option.isSome_none,Bool.not_false,Bool.true_or,Bool.and_true]
  cases (v.kd == 6) <;> cases ((Pt.getZ v Pt.nUsing).kd == 5) <;> cases ((Pt.getZ v Pt.nCalls).kd == 5) <;> simp
 | some x=>
  rw [Pt.getZ_of hg];simp only [Pt.okM1,Option.isSome_some,Bool.not_true,Bool.false_or]
  cases (v.kd == 6) <;> cases ((Pt.getZ v Pt.nUsing).kd == 5) <;> cases ((Pt.getZ v Pt.nCalls).kd == 5) <;> cases (x.kd == 6) <;> cases (decide (x.ms.length<=256)) <;> cases Pt.allT (Pt.getZ v Pt.nUsing).ls <;> simp

theorem rparse_v (s:ByteArray) (v:JV) (l:List Scn.Tok) (q:Nat) (w:World) (hs:s.size<=65536) (hT:PtTab w) (h:Rd.rdS s.data.toList=.ok v l q) (r:Pt.Pa) (hr:Pt.parseV v=r):Calls Tryz.prog 8 #[.string s] w (RqP w r):=by
 have hs':(s.size:Int)<=65536:=by omega
 obtain ⟨hok,_,hq,hq2,_,_,_⟩:=Rd.rdS_right h;have hnv:Rd.nv v<=1048576:=by omega
 have HNV:=LH hnv;have HOK:=LH hok;have HRR:=LH hr;have HT:=LH hT;have H2:=LH h;have HS:Hid (s.size<=9223372036854775807):=LH (by omega);obtain ⟨x1,hx1⟩:∃ x,Pt.getZ v Pt.nUsing=x:=⟨_,rfl⟩;obtain ⟨x2,hx2⟩:∃ x,Pt.getZ v Pt.nCalls=x:=⟨_,rfl⟩;obtain ⟨x3,hx3⟩:∃ x,Pt.getZ v Pt.nIds=x:=⟨_,rfl⟩;obtain ⟨t1,ht1⟩:∃ x,(Pt.get v Pt.nUsing).isSome=x:=⟨_,rfl⟩;obtain ⟨t2,ht2⟩:∃ x,(Pt.get v Pt.nCalls).isSome=x:=⟨_,rfl⟩;obtain ⟨t3,ht3⟩:∃ x,(Pt.get v Pt.nIds).isSome=x:=⟨_,rfl⟩;obtain ⟨r0,hr0⟩:∃ b,b=(v.kd == 6 && (x1.kd == 5 && (x2.kd == 5 && (!t3 || (x3.kd == 6 && decide (x3.ms.length<=256)))))):=⟨_,rfl⟩;have HR0:=LH hr0;have hfine:=Pt.fine_eq v;rw [hx1,hx2,hx3,ht3,<- hr0] at hfine;have HFI:=LH hfine;have hlen:∀ k x,Pt.getZ v k=x->x.ls.length<=1048576/\x.ms.length<=1048576:=λk x hx=>by
  subst hx;rcases Pt.getZ_nv v k with h | h
  ·have:=Pt.nv_eq (Pt.getZ v k);have:=Pt.nvL_len (Pt.getZ v k).ls;have:=Pt.nvM_len (Pt.getZ v k).ms;omega
  ·rw [h];decide
 have hn1:=(hlen _ _ hx1).1;have hn2:=(hlen _ _ hx2).1;have hn3:=(hlen _ _ hx3).2;have hn1':(x1.ls.length:Int)<=1048576:=by omega
 have hn2':(x2.ls.length:Int)<=1048576:=by omega
 have hn3':(x3.ms.length:Int)<=1048576:=by omega
 have HP1:Hid (∀ W:World,Calls Tryz.prog 18 #[.string ⟨#[110,111,116,82,101,113,117,101,115,116]⟩,.string ⟨#[]⟩] W λe w'=>∃ (D:Option Addr) (g:Nat),e=.returned (.agg #[.int .i64 6,.int .i64 0,.string ⟨#[]⟩,.slice none 0 0,.slice D 2 g])/\MsB w' 0 W.heap.size (.slice D 2 g) (Pt.prM Pt.kReq [])/\Fr W w'):=LH (λW=>rprob Pt.kReq [] (by decide) (by decide) 2 rfl W);have HP2:Hid (∀ W:World,Calls Tryz.prog 18 #[.string ⟨#[117,110,107,110,111,119,110,67,97,112,97,98,105,108,105,116,121]⟩,.string ⟨#[]⟩] W λe w'=>∃ (D:Option Addr) (g:Nat),e=.returned (.agg #[.int .i64 6,.int .i64 0,.string ⟨#[]⟩,.slice none 0 0,.slice D 2 g])/\MsB w' 0 W.heap.size (.slice D 2 g) (Pt.prM Pt.kCap [])/\Fr W w'):=LH (λW=>rprob Pt.kCap [] (by decide) (by decide) 2 rfl W);have HP3:Hid (∀ W:World,Calls Tryz.prog 18 #[.string ⟨#[108,105,109,105,116]⟩,.string ⟨#[109,97,120,67,97,108,108,115,73,110,82,101,113,117,101,115,116]⟩] W λe w'=>∃ (D:Option Addr) (g:Nat),e=.returned (.agg #[.int .i64 6,.int .i64 0,.string ⟨#[]⟩,.slice none 0 0,.slice D 3 g])/\MsB w' 0 W.heap.size (.slice D 3 g) (Pt.prM Pt.kLim Pt.kCalls)/\Fr W w'):=LH (λW=>rprob Pt.kLim Pt.kCalls (by decide) (by decide) 3 rfl W);clear hs hT h hr hok hnv hq hq2 hr0 hfine hlen;go_enter Tryz.func8,Tryz.ntmps8
 go_upto_region 2 with fail
 have hx0:Blk (((w.alloc (.cells #[.slice none 0 0,.slice none 0 0,.slice none 0 0,.bool false] 32)).alloc (.cells #[.int .i64 0,.int .i64 0,.string ⟨#[]⟩,.slice none 0 0,.slice none 0 0] 29)).alloc (.cells #[.slice none 0 0,.slice none 0 0,.slice none 0 0,.bool false] 32)) w.heap.size #[.slice none 0 0,.slice none 0 0,.slice none 0 0,.bool false] 32:=((Blk.made w _ _).keep ((FR _).alloc _)).keep ((FR _).alloc _);have hy0:Blk (((w.alloc (.cells #[.slice none 0 0,.slice none 0 0,.slice none 0 0,.bool false] 32)).alloc (.cells #[.int .i64 0,.int .i64 0,.string ⟨#[]⟩,.slice none 0 0,.slice none 0 0] 29)).alloc (.cells #[.slice none 0 0,.slice none 0 0,.slice none 0 0,.bool false] 32)) (w.heap.size+1) #[.int .i64 0,.int .i64 0,.string ⟨#[]⟩,.slice none 0 0,.slice none 0 0] 29:=(boxz (Blk.made (w.alloc _) _ _)).keep ((FR _).alloc _);have hn0:Blk (((w.alloc (.cells #[.slice none 0 0,.slice none 0 0,.slice none 0 0,.bool false] 32)).alloc (.cells #[.int .i64 0,.int .i64 0,.string ⟨#[]⟩,.slice none 0 0,.slice none 0 0] 29)).alloc (.cells #[.slice none 0 0,.slice none 0 0,.slice none 0 0,.bool false] 32)) (w.heap.size+1+1) #[.slice none 0 0,.slice none 0 0,.slice none 0 0,.bool false] 32:=boxy (Blk.made ((w.alloc _).alloc _) _ _);have hf0:Fr w (((w.alloc (.cells #[.slice none 0 0,.slice none 0 0,.slice none 0 0,.bool false] 32)).alloc (.cells #[.int .i64 0,.int .i64 0,.string ⟨#[]⟩,.slice none 0 0,.slice none 0 0] 29)).alloc (.cells #[.slice none 0 0,.slice none 0 0,.slice none 0 0,.bool false] 32)):=(((FR w).alloc _).alloc _).alloc _;generalize (((w.alloc (.cells #[.slice none 0 0,.slice none 0 0,.slice none 0 0,.bool false] 32)).alloc (.cells #[.int .i64 0,.int .i64 0,.string ⟨#[]⟩,.slice none 0 0,.slice none 0 0] 29)).alloc (.cells #[.slice none 0 0,.slice none 0 0,.slice none 0 0,.bool false] 32))=W0 at hx0 hy0 hn0 hf0 ⊢;have hX:∃ X,w.heap.size=X:=⟨_,rfl⟩;have hY:∃ Y,w.heap.size+1=Y:=⟨_,rfl⟩;have hN:∃ N,w.heap.size+1+1=N:=⟨_,rfl⟩;obtain ⟨N,hN⟩:=hN;rw [hN] at hn0 ⊢;obtain ⟨Y,hY⟩:=hY;rw [hY] at hy0 hN ⊢;obtain ⟨X,hX⟩:=hX;rw [hX] at hx0 hY ⊢;have HXw:Hid (w.heap.size<=X):=LH (by omega);have HYw:Hid (w.heap.size<=Y):=LH (by omega);have hXY:Hid (Y≠X):=LH (by omega);have nXY:¬ X=Y:=by omega
 have nYX:¬ Y=X:=by omega
 have nNX:N≠X:=by omega
 have nNY:N≠Y:=by omega
 have nXN:¬ X=N:=by omega
 have nYN:¬ Y=N:=by omega
 clear hX hY hN;have HNS:Hid (∀ W:World,Blk W N #[.slice none 0 0,.slice none 0 0,.slice none 0 0,.bool false] 32->W.cell? ⟨N,0,none⟩=some (.slice none 0 0)/\W.cell? ⟨N,1,none⟩=some (.slice none 0 0)/\W.cell? ⟨N,2,none⟩=some (.slice none 0 0)/\W.cell? ⟨N,3,none⟩=some (.bool false)):=LH (λW h=>⟨h.cell 0,h.cell 1,h.cell 2,h.cell 3⟩);have HX0:=LH hx0;have HY0:=LH hy0;have HN0:=LH hn0;have HF0:=LH hf0;clear hx0 hy0 hn0 hf0;go_upto_region 8 with (go_at_call 31;refine (pread_v s v l q _ HS.out (HT.out.keep HF0.out) H2.out).mono ?_;rintro e w1 ⟨B,d,B',d',rfl,hin,hf⟩;have HIN:=LH hin;have HF1:=LH hf;clear hin hf)
 have hv7:Blk ((w1.alloc (.cells #[.int .i64 v.kd,.int .i64 v.nm,.string ⟨v.tx.toArray⟩,.slice B v.ls.length d,.slice B' v.ms.length d'] 29)).alloc (.cells #[.slice none 0 0,.slice none 0 0,.slice none 0 0,.bool false] 32)) w1.heap.size #[.int .i64 v.kd,.int .i64 v.nm,.string ⟨v.tx.toArray⟩,.slice B v.ls.length d,.slice B' v.ms.length d'] 29:=(Blk.made w1 _ _).keep ((FR _).alloc _);have hr7:Blk ((w1.alloc (.cells #[.int .i64 v.kd,.int .i64 v.nm,.string ⟨v.tx.toArray⟩,.slice B v.ls.length d,.slice B' v.ms.length d'] 29)).alloc (.cells #[.slice none 0 0,.slice none 0 0,.slice none 0 0,.bool false] 32)) (w1.heap.size+1) #[.slice none 0 0,.slice none 0 0,.slice none 0 0,.bool false] 32:=boxz (Blk.made (w1.alloc _) _ _);have hin7:=HIN.out.keepS (λb hb=>hb.2) (((FR w1).alloc (.cells #[.int .i64 v.kd,.int .i64 v.nm,.string ⟨v.tx.toArray⟩,.slice B v.ls.length d,.slice B' v.ms.length d'] 29)).alloc (.cells #[.slice none 0 0,.slice none 0 0,.slice none 0 0,.bool false] 32));have hfw:Fr W0 ((w1.alloc (.cells #[.int .i64 v.kd,.int .i64 v.nm,.string ⟨v.tx.toArray⟩,.slice B v.ls.length d,.slice B' v.ms.length d'] 29)).alloc (.cells #[.slice none 0 0,.slice none 0 0,.slice none 0 0,.bool false] 32)):=(HF1.out.alloc _).alloc _;have hW0:W0.heap.size<=w1.heap.size:=HF1.out.size;generalize ((w1.alloc (.cells #[.int .i64 v.kd,.int .i64 v.nm,.string ⟨v.tx.toArray⟩,.slice B v.ls.length d,.slice B' v.ms.length d'] 29)).alloc (.cells #[.slice none 0 0,.slice none 0 0,.slice none 0 0,.bool false] 32))=W7 at hv7 hr7 hin7 hfw ⊢;generalize hRe:w1.heap.size+1=R at hr7 ⊢;generalize w1.heap.size=X5 at hRe hv7 hin7 hW0 ⊢;obtain ⟨Sv,hSv⟩:∃ S:Nat->Prop,S=Be W0.heap.size X5:=⟨_,rfl⟩;rw [<- hSv] at hin7;have HSR:Hid (∀ b,Sv b->b<R):=LH (λb hb=>by rw [hSv] at hb;have:=hb.2;omega);have HSX:Hid (∀ b,Sv b->b≠X/\b≠Y):=LH (λb hb=>by rw [hSv] at hb;have:=hb.1;have:=HX0.out.lt;have:=HY0.out.lt;constructor <;> omega);clear hSv;have HvR:Hid (X5≠R):=LH (by omega);have HX7:=LH (HX0.out.keep hfw);have HY7:=LH (HY0.out.keep hfw);have HN7:=LH (HN0.out.keep hfw);have HF7:=LH (HF0.out.trans hfw);have HXR:Hid (X≠R/\Y≠R/\N≠R):=LH ⟨λe=>by have:=HX0.out.lt;omega,λe=>by have:=HY0.out.lt;omega,λe=>by have:=HN0.out.lt;omega⟩;have HwR:Hid (w.heap.size<=R/\R<=W7.heap.size):=LH ⟨by have:=HF0.out.size;omega,Nat.le_of_lt hr7.lt⟩;have HR7:=LH hr7;have HV7:=LH hv7;have HI7:=LH hin7;clear hv7 hr7 hin7 hfw hW0 hRe;have HGU:Hid (∀ W,Fr W7 W->Calls Tryz.prog 32 #[.agg #[.int .i64 v.kd,.int .i64 v.nm,.string ⟨v.tx.toArray⟩,.slice B v.ls.length d,.slice B' v.ms.length d'],.string ⟨#[117,115,105,110,103]⟩] W λe w'=>(∃ (P:Option Addr) (p:Nat) (P':Option Addr) (p':Nat),e=.returned (.tuple #[.agg #[.int .i64 x1.kd,.int .i64 x1.nm,.string ⟨x1.tx.toArray⟩,.slice P x1.ls.length p,.slice P' x1.ms.length p'],.bool t1])/\InV w' Sv x1 (vA x1 P p P' p'))/\Fr W w'):=LH (λW hW=>getz7 v B d B' d' Pt.nUsing W Sv (λb hb=>lL (HSR.out b hb) (lT (Nat.le_of_lt HR7.out.lt) hW.size)) (HI7.out.keepS (λb hb=>Nat.lt_trans (HSR.out b hb) HR7.out.lt) hW) x1 hx1 t1 ht1);have HGC:Hid (∀ W,Fr W7 W->Calls Tryz.prog 32 #[.agg #[.int .i64 v.kd,.int .i64 v.nm,.string ⟨v.tx.toArray⟩,.slice B v.ls.length d,.slice B' v.ms.length d'],.string ⟨#[109,101,116,104,111,100,67,97,108,108,115]⟩] W λe w'=>(∃ (P:Option Addr) (p:Nat) (P':Option Addr) (p':Nat),e=.returned (.tuple #[.agg #[.int .i64 x2.kd,.int .i64 x2.nm,.string ⟨x2.tx.toArray⟩,.slice P x2.ls.length p,.slice P' x2.ms.length p'],.bool t2])/\InV w' Sv x2 (vA x2 P p P' p'))/\Fr W w'):=LH (λW hW=>getz7 v B d B' d' Pt.nCalls W Sv (λb hb=>lL (HSR.out b hb) (lT (Nat.le_of_lt HR7.out.lt) hW.size)) (HI7.out.keepS (λb hb=>Nat.lt_trans (HSR.out b hb) HR7.out.lt) hW) x2 hx2 t2 ht2);have HGI:Hid (∀ W,Fr W7 W->Calls Tryz.prog 32 #[.agg #[.int .i64 v.kd,.int .i64 v.nm,.string ⟨v.tx.toArray⟩,.slice B v.ls.length d,.slice B' v.ms.length d'],.string ⟨#[99,114,101,97,116,101,100,73,100,115]⟩] W λe w'=>(∃ (P:Option Addr) (p:Nat) (P':Option Addr) (p':Nat),e=.returned (.tuple #[.agg #[.int .i64 x3.kd,.int .i64 x3.nm,.string ⟨x3.tx.toArray⟩,.slice P x3.ls.length p,.slice P' x3.ms.length p'],.bool t3])/\InV w' Sv x3 (vA x3 P p P' p'))/\Fr W w'):=LH (λW hW=>getz7 v B d B' d' Pt.nIds W Sv (λb hb=>lL (HSR.out b hb) (lT (Nat.le_of_lt HR7.out.lt) hW.size)) (HI7.out.keepS (λb hb=>Nat.lt_trans (HSR.out b hb) HR7.out.lt) hW) x3 hx3 t3 ht3);have HGX:Hid (Pt.getZ v Pt.nUsing=x1/\Pt.getZ v Pt.nCalls=x2/\Pt.getZ v Pt.nIds=x3/\(Pt.get v Pt.nIds).isSome=t3):=LH ⟨hx1,hx2,hx3,ht3⟩;clear hx1 hx2 hx3 ht1 ht2 ht3;obtain ⟨⟨a0,a1,a2,a3,a4⟩,_⟩:=box5 HV7.out;go_upto_region 9 with (go_at_call 32;refine (HGU.out _ (FR _)).mono ?_;rintro e u1 ⟨⟨P1,p1,P1',p1',rfl,hin⟩,hf⟩;have HI1a:=LH hin;have HF1a:Hid (Fr W7 u1):=LH ((FR _).trans hf);have HS1a:=LH hf;clear hin hf)
 have hb1:=Blk.made u1 #[.int .i64 x1.kd,.int .i64 x1.nm,.string ⟨x1.tx.toArray⟩,.slice P1 x1.ls.length p1,.slice P1' x1.ms.length p1'] 29;have hf1:=HF1a.out.alloc (.cells #[.int .i64 x1.kd,.int .i64 x1.nm,.string ⟨x1.tx.toArray⟩,.slice P1 x1.ls.length p1,.slice P1' x1.ms.length p1'] 29);have hs1:=HS1a.out.alloc (.cells #[.int .i64 x1.kd,.int .i64 x1.nm,.string ⟨x1.tx.toArray⟩,.slice P1 x1.ls.length p1,.slice P1' x1.ms.length p1'] 29);have hi1:=HI1a.out.keepS (λb hb=>lL (HSR.out b hb) (lT (Nat.le_of_lt HR7.out.lt) HF1a.out.size)) ((FR u1).alloc (.cells #[.int .i64 x1.kd,.int .i64 x1.nm,.string ⟨x1.tx.toArray⟩,.slice P1 x1.ls.length p1,.slice P1' x1.ms.length p1'] 29));generalize (u1.alloc (.cells #[.int .i64 x1.kd,.int .i64 x1.nm,.string ⟨x1.tx.toArray⟩,.slice P1 x1.ls.length p1,.slice P1' x1.ms.length p1'] 29))=W8 at hb1 hf1 hs1 hi1 ⊢;have hXR1:u1.heap.size≠R:=λe=>by have:=HF1a.out.size;have:=HR7.out.lt;omega
 generalize u1.heap.size=X1 at hb1 hXR1 ⊢;have HB1:=LH hb1;have HF1:=LH hf1;have HS1:=LH hs1;have HI1:=LH hi1;have HXR1:=LH hXR1;clear hb1 hf1 hs1 hi1 hXR1 a0 a1 a2 a3 a4;obtain ⟨⟨a0,a1,a2,a3,a4⟩,_⟩:=box5 (HV7.out.keep HF1.out);go_upto_region 10 with (go_at_call 32;refine (HGC.out _ (HF1.out)).mono ?_;rintro e u2 ⟨⟨P2,p2,P2',p2',rfl,hin⟩,hf⟩;have HI2a:=LH hin;have HF2a:Hid (Fr W7 u2):=LH ((HF1.out).trans hf);have HS2a:=LH hf;clear hin hf)
 have hb2:=Blk.made u2 #[.int .i64 x2.kd,.int .i64 x2.nm,.string ⟨x2.tx.toArray⟩,.slice P2 x2.ls.length p2,.slice P2' x2.ms.length p2'] 29;have hf2:=HF2a.out.alloc (.cells #[.int .i64 x2.kd,.int .i64 x2.nm,.string ⟨x2.tx.toArray⟩,.slice P2 x2.ls.length p2,.slice P2' x2.ms.length p2'] 29);have hs2:=HS2a.out.alloc (.cells #[.int .i64 x2.kd,.int .i64 x2.nm,.string ⟨x2.tx.toArray⟩,.slice P2 x2.ls.length p2,.slice P2' x2.ms.length p2'] 29);have hi2:=HI2a.out.keepS (λb hb=>lL (HSR.out b hb) (lT (Nat.le_of_lt HR7.out.lt) HF2a.out.size)) ((FR u2).alloc (.cells #[.int .i64 x2.kd,.int .i64 x2.nm,.string ⟨x2.tx.toArray⟩,.slice P2 x2.ls.length p2,.slice P2' x2.ms.length p2'] 29));generalize (u2.alloc (.cells #[.int .i64 x2.kd,.int .i64 x2.nm,.string ⟨x2.tx.toArray⟩,.slice P2 x2.ls.length p2,.slice P2' x2.ms.length p2'] 29))=W9 at hb2 hf2 hs2 hi2 ⊢;have hXR2:u2.heap.size≠R:=λe=>by have:=HF2a.out.size;have:=HR7.out.lt;omega
 generalize u2.heap.size=X2 at hb2 hXR2 ⊢;have HB2:=LH hb2;have HF2:=LH hf2;have HS2:=LH hs2;have HI2:=LH hi2;have HXR2:=LH hXR2;clear hb2 hf2 hs2 hi2 hXR2 a0 a1 a2 a3 a4;obtain ⟨⟨a0,a1,a2,a3,a4⟩,_⟩:=box5 (HV7.out.keep HF2.out);go_upto_region 11 with (go_at_call 32;refine (HGI.out _ (HF2.out)).mono ?_;rintro e u3 ⟨⟨P3,p3,P3',p3',rfl,hin⟩,hf⟩;have HI3a:=LH hin;have HF3a:Hid (Fr W7 u3):=LH ((HF2.out).trans hf);have HS3a:=LH hf;clear hin hf)
 have hb3:=Blk.made u3 #[.int .i64 x3.kd,.int .i64 x3.nm,.string ⟨x3.tx.toArray⟩,.slice P3 x3.ls.length p3,.slice P3' x3.ms.length p3'] 29;have hf3:=HF3a.out.alloc (.cells #[.int .i64 x3.kd,.int .i64 x3.nm,.string ⟨x3.tx.toArray⟩,.slice P3 x3.ls.length p3,.slice P3' x3.ms.length p3'] 29);have hs3:=HS3a.out.alloc (.cells #[.int .i64 x3.kd,.int .i64 x3.nm,.string ⟨x3.tx.toArray⟩,.slice P3 x3.ls.length p3,.slice P3' x3.ms.length p3'] 29);have hi3:=HI3a.out.keepS (λb hb=>lL (HSR.out b hb) (lT (Nat.le_of_lt HR7.out.lt) HF3a.out.size)) ((FR u3).alloc (.cells #[.int .i64 x3.kd,.int .i64 x3.nm,.string ⟨x3.tx.toArray⟩,.slice P3 x3.ls.length p3,.slice P3' x3.ms.length p3'] 29));generalize (u3.alloc (.cells #[.int .i64 x3.kd,.int .i64 x3.nm,.string ⟨x3.tx.toArray⟩,.slice P3 x3.ls.length p3,.slice P3' x3.ms.length p3'] 29))=W10 at hb3 hf3 hs3 hi3 ⊢;have hXR3:u3.heap.size≠R:=λe=>by have:=HF3a.out.size;have:=HR7.out.lt;omega
 generalize u3.heap.size=X3 at hb3 hXR3 ⊢;have HB3:=LH hb3;have HF3:=LH hf3;have HS3:=LH hs3;have HI3:=LH hi3;have HXR3:=LH hXR3;clear hb3 hf3 hs3 hi3 hXR3 a0 a1 a2 a3 a4;have HBV:=LH (HV7.out.keep HF3.out);have HBU:=LH (HB1.out.keep (HS2.out.trans HS3.out));have HBC:=LH (HB2.out.keep HS3.out);have HBG:=HB3;have HIU:=LH (HI1.out.keepS (λb hb=>lL (HSR.out b hb) (lT (Nat.le_of_lt HR7.out.lt) HF1.out.size)) (HS2.out.trans HS3.out));have HIC:=LH (HI2.out.keepS (λb hb=>lL (HSR.out b hb) (lT (Nat.le_of_lt HR7.out.lt) HF2.out.size)) HS3.out);have HIG:=HI3;have HXY1:=HXR1;have HR10:=LH (HR7.out.keep HF3.out);have HK7:=HF3;clear HB1 HB2 HB3 HI1 HI2 HI3 HF1 HF2 HF3 HS1 HS2 HS3 HS1a HS2a HS3a HF1a HF2a HF3a HI1a HI2a HI3a HGU HGC HGI;obtain ⟨⟨a0,a1,a2,a3,a4⟩,_⟩:=box5 HBV.out;obtain ⟨⟨c0,c1,c2,c3,c4⟩,_⟩:=box5 HBU.out;obtain ⟨⟨d0,d1,d2,d3,d4⟩,_⟩:=box5 HBC.out;obtain ⟨⟨g0,g1,g2,g3,g4⟩,_⟩:=box5 HBG.out;go_cut [15] from 55 to 82 (λb wx=>b=.bool r0/\Hid (Fr W10 wx))
 case first=>
  by_cases k6:v.kd=6
  ·have b6:(v.kd == 6)=true:=by rw [beq_iff_eq];exact k6
   clear k6;by_cases k5:x1.kd=5
   ·have b5:(x1.kd == 5)=true:=by rw [beq_iff_eq];exact k5
    clear k5;by_cases kc:x2.kd=5
    ·have bc:(x2.kd == 5)=true:=by rw [beq_iff_eq];exact kc
     clear kc
     cases t3
     ·skip
      obtain rfl:r0=true:=by rw [HR0.out];rw [b6,b5,bc];rfl
      go_wp2_with fail
      go_meet
      exact ⟨rfl,LH (FR _)⟩
     by_cases kg:x3.kd=6
     ·have bg:(x3.kd == 6)=true:=by rw [beq_iff_eq];exact kg
      clear kg;by_cases hl:x3.ms.length<=256
      ·have hl':(x3.ms.length:Int)<=256:=by omega
       obtain rfl:r0=true:=by rw [HR0.out];rw [b6,b5,bc,bg,dT hl];rfl
       go_wp2_with fail
       go_meet
       exact ⟨rfl,LH (FR _)⟩
      ·have hl':¬ (x3.ms.length:Int)<=256:=by omega
       obtain rfl:r0=false:=by rw [HR0.out];rw [b6,b5,bc,bg,dF hl];rfl
       go_wp2_with fail
       go_meet
       exact ⟨rfl,LH (FR _)⟩
     ·have bg:(x3.kd == 6)=false:=(ikind kg).1;obtain rfl:r0=false:=by rw [HR0.out];rw [b6,b5,bc,bg];rfl
      go_wp2_with fail
      go_meet
      exact ⟨rfl,LH (FR _)⟩
    ·have bc:(x2.kd == 5)=false:=(ikind kc).1;obtain rfl:r0=false:=by rw [HR0.out];rw [b6,b5,bc];rfl
     go_wp2_with fail
     go_meet
     exact ⟨rfl,LH (FR _)⟩
   ·have b5:(x1.kd == 5)=false:=(ikind k5).1;obtain rfl:r0=false:=by rw [HR0.out];rw [b6,b5];rfl
    go_wp2_with fail
    go_meet
    exact ⟨rfl,LH (FR _)⟩
  ·have b6:(v.kd == 6)=false:=(ikind k6).1;obtain rfl:r0=false:=by rw [HR0.out];rw [b6];rfl
   go_wp2_with fail
   go_meet
   exact ⟨rfl,LH (FR _)⟩
 case rest=>
  obtain ⟨rfl,hFc⟩:=hcut;obtain ⟨W11,hW11⟩:∃ W,W=wc:=⟨wc,rfl⟩;subst hW11;clear a0 a1 a2 a3 a4 c0 c1 c2 c3 c4 d0 d1 d2 d3 d4 g0 g1 g2 g3 g4;have HRc:=LH (HR10.out.keep hFc.out);have HUc:=LH (HBU.out.keep hFc.out);have HCc:=LH (HBC.out.keep hFc.out);have HGc:=LH (HBG.out.keep hFc.out);have HIUc:=LH (HIU.out.keepS (λb hb=>Nat.lt_trans (HSR.out b hb) HR10.out.lt) hFc.out);have HICc:=LH (HIC.out.keepS (λb hb=>Nat.lt_trans (HSR.out b hb) HR10.out.lt) hFc.out);have HIGc:=LH (HIG.out.keepS (λb hb=>Nat.lt_trans (HSR.out b hb) HR10.out.lt) hFc.out);have HKc:=LH (HK7.out.trans hFc.out);clear HBV HBU HBC HBG HIU HIC HIG HR10 HK7 hFc;obtain ⟨e1,f1,e1',f1',he1,hl1,_⟩:=HIUc.out.open_;obtain rfl:P1=e1:=by obtain ⟨_,_,_,e3,_⟩:=five he1;injection e3
  have HLU:=LH hl1;obtain ⟨e2,f2,e2',f2',he2,hl2,_⟩:=HICc.out.open_;obtain rfl:P2=e2:=by obtain ⟨_,_,_,e3,_⟩:=five he2;injection e3
  have HLC:=LH hl2;obtain ⟨e3,f3,e3',f3',he3,_,hm3⟩:=HIGc.out.open_;obtain rfl:P3'=e3':=by obtain ⟨_,_,_,_,e4⟩:=five he3;injection e4
  have HMG:=LH hm3;clear he1 hl1 he2 hl2 he3 hm3 HIUc HICc HIGc;obtain ⟨⟨c0,c1,c2,c3,c4⟩,_⟩:=box5 HUc.out;go_upto_region 14 with fail
  clear c0 c1 c2 c3 c4;go_loopw [15,16,17] (λa k j wz=>∃ (i:Nat) (us:Value) (ra ka:Bool),i<=x1.ls.length/\j=.int .i64 i/\a=.bool ra/\k=.bool ka/\Hid (ra=(r0 && Pt.allT (x1.ls.take i)))/\Hid (ka = !Pt.odd ((x1.ls.take i).map JV.tx))/\Hid (FrX R W11 wz)/\Hid (Blk wz R #[us,.slice none 0 0,.slice none 0 0,.bool false] 32)/\Hid (Ssl wz W11.heap.size us ((x1.ls.take i).map JV.tx))) (λ_ _ j _=>x1.ls.length - (intOf j).toNat)
  case atStart=>exact ⟨0,_,_,_,by omega,rfl,rfl,rfl,LH (by rw [List.take_zero];show _=(r0 && true);rw [Bool.and_true]),LH rfl,LH (FrX.refl R W11),HRc,LH (Ssl.none_ _ _)⟩
  case round=>
   obtain ⟨i,us,ra,ka,hi,rfl,rfl,rfl,hra,hka,hX,hRr,hS⟩:=hrel;obtain ⟨⟨c0,c1,c2,c3,c4⟩,_⟩:=box5 (HUc.out.frx hX.out HXR1.out);by_cases hlt:i<x1.ls.length
   ·have hlt':(i:Int)<(x1.ls.length:Int):=by omega
    obtain ⟨b5,o5,E,e,E',e',rfl,hbb,⟨n0,n1,n2,n3,n4⟩,hu⟩:=(HLU.out.frxS (λb hb=>⟨Nat.lt_trans (HSR.out b hb) HRc.out.lt,Nat.ne_of_lt (HSR.out b hb)⟩) hX.out) i hlt;obtain ⟨u,hxu⟩:∃ u,x1.ls[i]=u:=⟨_,rfl⟩;rw [hxu] at n0 n1 n2 n3 n4 hu;have HXU:=LH hxu;go_upto_region 17 with fail
    have hb6:=Blk.made wr #[.int .i64 u.kd,.int .i64 u.nm,.string ⟨u.tx.toArray⟩,.slice E u.ls.length e,.slice E' u.ms.length e'] 29;have hf6:Fr wr (wr.alloc (.cells #[.int .i64 u.kd,.int .i64 u.nm,.string ⟨u.tx.toArray⟩,.slice E u.ls.length e,.slice E' u.ms.length e'] 29)):=(FR wr).alloc _;generalize (wr.alloc (.cells #[.int .i64 u.kd,.int .i64 u.nm,.string ⟨u.tx.toArray⟩,.slice E u.ls.length e,.slice E' u.ms.length e'] 29))=W6 at hb6 hf6 ⊢;generalize wr.heap.size=X6 at hb6 ⊢;have HB6:=LH hb6;have HF6:=LH hf6;obtain ⟨⟨y0,y1,y2,y3,y4⟩,_⟩:=box5 hb6;clear hb6 hf6 c0 c1 c2 c3 c4 n0 n1 n2 n3 n4 hu hxu hbb;obtain ⟨ra2,hra2⟩:∃ b,b=(ra && (u.kd == 4)):=⟨_,rfl⟩;have HRA2:=LH hra2;clear hra2;go_cut [15] from 83 to 118 (λa wx=>a=.bool ra2/\Hid (Fr W6 wx))
    case first=>
     cases ra
     ·obtain rfl:ra2=false:=HRA2.out;go_wp2_with fail
      go_meet
      exact ⟨rfl,LH (FR _)⟩
     ·by_cases k4:u.kd=4
      ·have b4:(u.kd == 4)=true:=by rw [beq_iff_eq];exact k4
       obtain rfl:ra2=true:=by rw [HRA2.out,b4];rfl
       clear k4;go_wp2_with fail
       go_meet
       exact ⟨rfl,LH (FR _)⟩
      ·have b4:(u.kd == 4)=false:=(ikind k4).1;obtain rfl:ra2=false:=by rw [HRA2.out,b4];rfl
       clear k4;go_wp2_with fail
       go_meet
       exact ⟨rfl,LH (FR _)⟩
    case rest=>
     obtain ⟨rfl,hFd⟩:=hcut;obtain ⟨W7b,hW7b⟩:∃ W,W=wc:=⟨wc,rfl⟩;subst hW7b;have hb7:=HB6.out.keep hFd.out;have HFd:=LH (HF6.out.trans hFd.out);clear y0 y1 y2 y3 y4;have HB7:=LH hb7;obtain ⟨⟨y0,y1,y2,y3,y4⟩,_⟩:=box5 hb7;clear hb7 hFd HB6 HF6;obtain ⟨cb1,hcb1⟩:∃ b:Bool,(u.tx == ([117,114,110,58,105,101,116,102,58,112,97,114,97,109,115,58,106,109,97,112,58,99,111,114,101]:List UInt8))=b:=⟨_,rfl⟩;obtain ⟨cb2,hcb2⟩:∃ b:Bool,(u.tx == ([117,114,110,58,105,101,116,102,58,112,97,114,97,109,115,58,106,109,97,112,58,99,111,110,116,97,99,116,115]:List UInt8))=b:=⟨_,rfl⟩;obtain ⟨ka2,hka2⟩:∃ b,b=(ka && (cb1 || cb2)):=⟨_,rfl⟩;have HCP:Hid (Pt.cap ⟨u.tx.toArray⟩=(cb1 || cb2)):=LH (by rw [Pt.cap_tx,hcb1,hcb2]);have HKA2:=LH hka2;clear hka2;go_upto_region 18 with fail
     go_cut [16] from 83 to 118 (λk wx=>k=.bool ka2/\Hid (Fr W7b wx))
     case first=>
      cases ka
      ·obtain rfl:ka2=false:=HKA2.out;go_wp2_with fail
       go_meet
       exact ⟨rfl,LH (FR _)⟩
      ·cases cb1
       ·cases cb2
        ·obtain rfl:ka2=false:=HKA2.out;go_wp2_with fail
         go_meet
         exact ⟨rfl,LH (FR _)⟩
        ·obtain rfl:ka2=true:=HKA2.out;go_wp2_with fail
         go_meet
         exact ⟨rfl,LH (FR _)⟩
       ·obtain rfl:ka2=true:=HKA2.out;go_wp2_with fail
        go_meet
        exact ⟨rfl,LH (FR _)⟩
     case rest=>
      obtain ⟨rfl,hFe⟩:=hcut;obtain ⟨W8,hW8⟩:∃ W,W=wc:=⟨wc,rfl⟩;subst hW8;have hb8:=HB7.out.keep hFe.out;have HF8:=LH (HFd.out.trans hFe.out);clear y0 y1 y2 y3 y4 hFe HFd HB7 hcb1 hcb2;have hr8:=hRr.out.keep HF8.out;have HR8:=LH hr8;have HS8:=LH (hS.out.keep HF8.out);obtain ⟨⟨y0,y1,y2,y3,y4⟩,_⟩:=box5 hb8;obtain ⟨⟨r0',r1,r2,r3⟩,rf0,rf1,rf2,rf3⟩:=box4r hr8;have hmin:((x1.ls.take i).map JV.tx++[u.tx]).length=i+1:=by simp;omega
      have hk16:(((x1.ls.take i).map JV.tx).length+1)*16<=140737488355328:=by simp;omega
      have hle8:W11.heap.size<=W8.heap.size:=lT hX.out.size HF8.out.size;clear hb8 hr8;go_wp2_with (at_builtin;refine wpl_sg_lit rfl (.tmp 113) (.tmp 116) rfl W11.heap.size hle8 us _ rfl HS8.out u.tx rfl rfl rfl hk16 ?_;intro v9 w9 hs9 hg9;obtain ⟨A9,c9,e9,_⟩:=hs9.shows;replace e9:v9=.slice A9 (i+1) c9:=(by rw [e9,hmin]);subst e9;have HS9:=LH hs9;have HX9:Hid (FrX R W11 w9):=LH (FrX.grown2 ((hX.out.fr HF8.out).alloc _) hg9 (λk hk=>(Row.own HS8.out hk).1));have hr9:Blk w9 R _ _:=(hg9.block R (lL HR8.out.lt ((FR _).alloc _).size) (λe=>by have:=(Row.own HS8.out e.symm).1;have:=HRc.out.lt;omega)).trans (HR8.out.keep ((FR _).alloc _));obtain ⟨⟨q0,q1,q2,q3⟩,qf0,qf1,qf2,qf3⟩:=box4r hr9;have HR9:=LH hr9;clear hs9 hg9 hr9)
      exact ⟨⟨i+1,_,ra2,ka2,by omega,by go_num,rfl,rfl,LH (by rw [Pt.allT_take hlt,HXU.out,HRA2.out,hra.out,Bool.and_assoc]),LH (by rw [Pt.take_tx hlt,HXU.out,Pt.odd_app,HCP.out,HKA2.out,hka.out,Bool.not_or,Bool.not_not]),LH (HX9.out.setCell rfl _),LH (HR9.out.set 0 _),LH (by rw [Pt.take_tx hlt,HXU.out];exact Row.frx HS9.out HRc.out.lt ((FrX.refl R w9).setCell (p:=⟨R,0,none⟩) rfl _))⟩,by simp [intOf];omega⟩
   ·obtain rfl:i=x1.ls.length:=by omega
    obtain ⟨W20,hW20⟩:∃ W,W=wr:=⟨wr,rfl⟩;subst hW20;have HRA:=LH hra.out;have HKA:=LH hka.out;have HSS:=LH hS.out;rw [List.take_length] at HRA HKA HSS;have HR20:=LH hRr.out;have HC20:=LH (HCc.out.frx hX.out HXR2.out);have HG20:=LH (HGc.out.frx hX.out HXR3.out);have HLC20:=LH (HLC.out.frxS (λb hb=>⟨Nat.lt_trans (HSR.out b hb) HRc.out.lt,Nat.ne_of_lt (HSR.out b hb)⟩) hX.out);have HMG20:=LH (HMG.out.frxS (λb hb=>⟨Nat.lt_trans (HSR.out b hb) HRc.out.lt,Nat.ne_of_lt (HSR.out b hb)⟩) hX.out);have HX20:=LH hX.out;clear hra hka hS hRr hX hi hlt;have hR20:R<W20.heap.size:=HR20.out.lt;have hnR2:X2≠R:=HXR2.out;obtain ⟨⟨d0,d1,d2,d3,d4⟩,_⟩:=box5 HC20.out;go_upto_region 21 with fail
    clear d0 d1 d2 d3 d4 c0 c1 c2 c3 c4;go_loopw [15,19] (λa j wz=>∃ (i:Nat) (cs:Value) (acc:List CallV) (rb:Bool),i<=x2.ls.length/\j=.int .i64 i/\a=.bool rb/\Hid (rb=(ra && Pt.allC (x2.ls.take i)))/\Hid (FrX R W20 wz)/\Hid (Blk wz R #[us,cs,.slice none 0 0,.bool false] 32)/\Hid (CsB wz Sv W20.heap.size cs acc)/\Hid ((rb=true->acc=(x2.ls.take i).map Pt.callC)/\acc.length<=i)) (λ_ j _=>x2.ls.length - (intOf j).toNat)
    case atStart=>exact ⟨0,_,[],ra,by omega,rfl,rfl,LH (by rw [List.take_zero];show _=(ra && true);rw [Bool.and_true]),LH (FrX.refl R W20),HR20,LH (CsB.none_ _ ⟨λb hb=>Nat.lt_trans (HSR.out b hb) hR20,lR _⟩),LH ⟨λ_=>rfl,by simp⟩⟩
    case round=>
     obtain ⟨i,cs,acc,rb,hi,rfl,rfl,hrb,hX,hRr,hS,hA⟩:=hrel;have HRB2:=LH hrb.out;clear hrb;obtain ⟨⟨d0,d1,d2,d3,d4⟩,_⟩:=box5 (HC20.out.frx hX.out hnR2);by_cases hlt:i<x2.ls.length
     ·have hlt':(i:Int)<(x2.ls.length:Int):=by omega
      obtain ⟨b5,o5,E,e,E',e',rfl,hbb,⟨c1,c2,c3,c4,c5⟩,hu⟩:=(HLC20.out.frxS (λb hb=>⟨Nat.lt_trans (HSR.out b hb) hR20,Nat.ne_of_lt (HSR.out b hb)⟩) hX.out) i hlt;obtain ⟨u,hxu⟩:∃ u,x2.ls[i]=u:=⟨_,rfl⟩;rw [hxu] at c1 c2 c3 c4 c5 hu;have HXU:=LH hxu;have hAl:=hA.out.2;have hk16:(acc.length+1)*112<=140737488355328:=by omega
      clear hxu hbb;by_cases hk:u.kd=5
      ·by_cases h3:u.ls.length=3
       ·obtain ⟨la,lb,lc,hl3⟩:∃ la lb lc,u.ls=[la,lb,lc]:=by
         match h:u.ls,h3 with
         | [a,b,c],_=>exact ⟨a,b,c,rfl⟩
        obtain ⟨Eu,ku,Eu',ku',heu,hlsu,_⟩:=hu.open_;have hEu:E=Eu:=by obtain ⟨_,_,_,e3,_⟩:=five heu;injection e3
        subst hEu;obtain ⟨g,q2,_,_,_,_,D,f,D',f',_,_,_,_,rfl,hgR,⟨a0,a1,a2,_,_⟩,⟨n0,n1,n2,n3,n4⟩,⟨z0,z1,z2,_,_⟩,hil0⟩:=hlsu.three hl3;have hgc:=Pt.goodC_3 hl3;have hcu:=Pt.callC_3 hl3;rw [h3] at c4;have h5':(u.kd == 5)=true:=by rw [beq_iff_eq];exact hk
        have q5:(u.kd != 5)=false:=by rw [bne_eq_false_iff_eq];exact hk
        rw [h5'] at hgc;have HIL:=LH hil0;have HCU:=LH hcu;have HgR:Hid (g<R):=LH (HSR.out g hgR);have hgz:g<wr.heap.size:=by
         have h1:g<R:=HSR.out g hgR;have:=hRr.out.lt;omega
        have hal:=(FR wr).alloc (.cells #[Value.int .i64 u.kd,Value.int .i64 u.nm,.string ⟨u.tx.toArray⟩,.slice (some ⟨g,q2,none⟩) 3 e,.slice E' u.ms.length e'] 29);replace a0:=(hal.cell hgz).trans a0;replace n0:=(hal.cell hgz).trans n0;replace z0:=(hal.cell hgz).trans z0;have HG8:Hid ((wr.cell? ⟨g,q2+2,none⟩=some (.string ⟨la.tx.toArray⟩))/\VC wr g (q2+5) lb D f D' f'/\wr.cell? ⟨g,q2+10+2,none⟩=some (.string ⟨lc.tx.toArray⟩)/\g<wr.heap.size):=LH ⟨a2,⟨(hal.cell hgz).symm.trans n0,n1,n2,n3,n4⟩,z2,hgz⟩;clear hk h5' hil0 hcu h3 hl3 hlsu heu hu hal hgz a1 a2 n1 n2 n3 n4 z1 z2 hgR;by_cases ka':la.kd=4
        ·have qa:(la.kd != 4)=false:=by rw [bne_eq_false_iff_eq];exact ka'
         have qa2:(la.kd == 4)=true:=by rw [beq_iff_eq];exact ka'
         rw [qa2] at hgc;clear qa2 ka';by_cases kb:lb.kd=6
         ·have qb:(lb.kd != 6)=false:=by rw [bne_eq_false_iff_eq];exact kb
          have qb2:(lb.kd == 6)=true:=by rw [beq_iff_eq];exact kb
          rw [qb2] at hgc;clear qb2 kb;by_cases kc:lc.kd=4
          ·have qc:(lc.kd != 4)=false:=by rw [bne_eq_false_iff_eq];exact kc
           have qc2:(lc.kd == 4)=true:=by rw [beq_iff_eq];exact kc
           rw [qc2] at hgc;have HGC:=LH hgc;clear qc2 kc hgc;go_upto_region 26 with fail
           have hb8:=Blk.made wr #[Value.int .i64 u.kd,Value.int .i64 u.nm,.string ⟨u.tx.toArray⟩,.slice (some ⟨g,q2,none⟩) 3 e,.slice E' u.ms.length e'] 29;have hf8:Fr wr (wr.alloc (.cells #[Value.int .i64 u.kd,Value.int .i64 u.nm,.string ⟨u.tx.toArray⟩,.slice (some ⟨g,q2,none⟩) 3 e,.slice E' u.ms.length e'] 29)):=(FR wr).alloc _;have hgz:=HG8.out.2.2.2;have hX8:wr.heap.size≠R:=λe=>by have:=hRr.out.lt;omega
           clear a0 n0 z0;generalize (wr.alloc (.cells #[Value.int .i64 u.kd,Value.int .i64 u.nm,.string ⟨u.tx.toArray⟩,.slice (some ⟨g,q2,none⟩) 3 e,.slice E' u.ms.length e'] 29))=W8 at hb8 hf8 ⊢;have hgX:wr.heap.size≠g:=by omega
           have hcsX:∀ k,cs.ownBlock=some k->k<wr.heap.size:=λk hk=>(hS.out.own hk).2
           generalize wr.heap.size=X8 at hb8 hX8 hgX hcsX ⊢;have hgR':g≠R:=Nat.ne_of_lt HgR.out;have hgW:g<W8.heap.size:=lL hgz hf8.size;have hrb:=hRr.out.keep hf8;have hlX:X8<W8.heap.size:=hb8.lt;have HSB:Hid (∀ W:World,(W.heap[X8]? = W8.heap[X8]? /\ W.heap[g]? = W8.heap[g]? /\ W.heap[R]? = W8.heap[R]?)->W.cell? ⟨R,1,none⟩=some cs/\W.cell? ⟨X8,3,none⟩=some (.slice (some ⟨g,q2,none⟩) 3 e)/\W.cell? ⟨g,q2+2,none⟩=some (.string ⟨la.tx.toArray⟩)/\W.cell? ⟨g,q2+5,none⟩=some (.int .i64 lb.kd)/\W.cell? ⟨g,q2+5+1,none⟩=some (.int .i64 lb.nm)/\W.cell? ⟨g,q2+5+2,none⟩=some (.string ⟨lb.tx.toArray⟩)/\W.cell? ⟨g,q2+5+3,none⟩=some (.slice D lb.ls.length f)/\W.cell? ⟨g,q2+5+4,none⟩=some (.slice D' lb.ms.length f')/\W.cell? ⟨g,q2+10+2,none⟩=some (.string ⟨lc.tx.toArray⟩)):=LH (λW hW=>by
            obtain ⟨p2,⟨m0,m1,m2,m3,m4⟩,r2,_⟩:=HG8.out;have hc:∀ o,W.cell? ⟨g,o,none⟩=wr.cell? ⟨g,o,none⟩:=λo=>by
             rw [<- hf8.cell (o:=o) hgz];unfold World.cell?;rw [hW.2.1]
            have hb:Blk W X8 _ _:=hW.1.trans hb8;have hr:Blk W R _ _:=hW.2.2.trans hrb;exact ⟨hr.cell 1,hb.cell 3,(hc _).trans p2,(hc _).trans m0,(hc _).trans m1,(hc _).trans m2,(hc _).trans m3,(hc _).trans m4,(hc _).trans r2⟩)
           have HSW:Hid (∀ W,Fr W8 W->W.cell? ⟨R,1,none⟩=some cs/\W.cell? ⟨X8,3,none⟩=some (.slice (some ⟨g,q2,none⟩) 3 e)/\W.cell? ⟨g,q2+2,none⟩=some (.string ⟨la.tx.toArray⟩)/\W.cell? ⟨g,q2+5,none⟩=some (.int .i64 lb.kd)/\W.cell? ⟨g,q2+5+1,none⟩=some (.int .i64 lb.nm)/\W.cell? ⟨g,q2+5+2,none⟩=some (.string ⟨lb.tx.toArray⟩)/\W.cell? ⟨g,q2+5+3,none⟩=some (.slice D lb.ls.length f)/\W.cell? ⟨g,q2+5+4,none⟩=some (.slice D' lb.ms.length f')/\W.cell? ⟨g,q2+10+2,none⟩=some (.string ⟨lc.tx.toArray⟩)):=LH (λW hW=>HSB.out W ⟨Below.block hW _ hlX,Below.block hW _ hgW,Below.block hW _ hrb.lt⟩);have hs8:CsB W8.drew Sv W20.heap.size cs acc:=(hS.out.keep hf8).keep (FR _).drew;have hil:InV W8.drew Sv lb (vA lb D f D' f'):=(HIL.out.keepS (λb hb=>Nat.lt_trans (HSR.out b hb) hRr.out.lt) hf8).keepS (λb hb=>Nat.lt_trans (HSR.out b hb) hrb.lt) (FR _).drew;have hown:∀ k,cs.ownBlock=some k->W20.heap.size<=k/\k<X8:=λk hk=>⟨(hS.out.own hk).1,hcsX k hk⟩
           refine OrdL.begin (x:=20) (λW=>W.cell? ⟨R,1,none⟩=some cs/\W.cell? ⟨X8,3,none⟩=some (.slice (some ⟨g,q2,none⟩) 3 e)/\W.cell? ⟨g,q2+2,none⟩=some (.string ⟨la.tx.toArray⟩)/\W.cell? ⟨g,q2+5,none⟩=some (.int .i64 lb.kd)/\W.cell? ⟨g,q2+5+1,none⟩=some (.int .i64 lb.nm)/\W.cell? ⟨g,q2+5+2,none⟩=some (.string ⟨lb.tx.toArray⟩)/\W.cell? ⟨g,q2+5+3,none⟩=some (.slice D lb.ls.length f)/\W.cell? ⟨g,q2+5+4,none⟩=some (.slice D' lb.ms.length f')/\W.cell? ⟨g,q2+10+2,none⟩=some (.string ⟨lc.tx.toArray⟩)) (by kernel_rfl) ?_ (λhH=>?_)
           ·exact HSW.out _ (FR _).drew
           refine lq 0 [1,18] rfl hH ?_;(try simp only [Act.put,fl]);refine lq 1 [18] rfl hH ?_;(try simp only [Act.put,fl]);refine lq 2 [3,4,5,6,16,17,18] rfl hH ?_;(try simp only [Act.put,fl]);refine lq 3 [4,5,6,16,17,18] rfl hH ?_;(try simp only [Act.put,fl]);refine lq 4 [5,6,16,17,18] rfl hH ?_;(try simp only [Act.put,fl]);refine lq 5 [6,16,17,18] rfl hH ?_;(try simp only [Act.put,fl]);refine lq 6 [16,17,18] rfl hH ?_;(try simp only [Act.put,fl]);refine lq 7 [8,9,10,16,17,18] rfl hH ?_;(try simp only [Act.put,fl]);refine lq 8 [9,10,16,17,18] rfl hH ?_;(try simp only [Act.put,fl]);refine lq 9 [10,16,17,18] rfl hH ?_;(try simp only [Act.put,fl]);refine lq 10 [16,17,18] rfl hH ?_;(try simp only [Act.put,fl]);refine lq 11 [12,13,14,15,16,17,18] rfl hH ?_;(try simp only [Act.put,fl]);refine lq 12 [13,14,15,16,17,18] rfl hH ?_;(try simp only [Act.put,fl]);refine lq 13 [14,15,16,17,18] rfl hH ?_;(try simp only [Act.put,fl]);refine lq 14 [15,16,17,18] rfl hH ?_;(try simp only [Act.put,fl]);refine lq 15 [16,17,18] rfl hH ?_;(try simp only [Act.put,fl]);refine lq 16 [17,18] rfl hH ?_;(try simp only [Act.put,fl]);refine OrdL.one (i:=17) rfl (by kernel_rfl) (by rfl) (λK hK=>?_);go_simp
           refine hK.out _ _ (HSW.out _ ((FR _).drew.alloc _)) (λhH2=>?_);clear hK K;(try simp only [Act.put,fl]);refine OrdL.one (i:=18) rfl (by kernel_rfl) (by rfl) (λK hK=>?_);refine step_cB_lit rfl (.tmp 165) (.tmp 181) rfl Sv W20.heap.size cs acc rfl hs8 la.tx lb lc.tx D f D' f' rfl hil rfl hk16 ?_;intro v9 w9 hs9 hg9;obtain ⟨A9,c9,e9⟩:=hs9.is_slice;replace e9:v9=.slice A9 (acc.length+1) c9:=by rw [e9];simp
           subst e9;have hal9:=(FR W8).drew.alloc (.cells #[.string ⟨la.tx.toArray⟩,.int .i64 lb.kd,.int .i64 lb.nm,.string ⟨lb.tx.toArray⟩,.slice D lb.ls.length f,.slice D' lb.ms.length f',.string ⟨lc.tx.toArray⟩] 50);have hx9:w9.heap[X8]? = W8.heap[X8]? /\ w9.heap[g]? = W8.heap[g]? /\ w9.heap[R]? = W8.heap[R]?:=⟨(hg9.block X8 (lL hlX hal9.size) (λe=>by have:=(hown X8 e.symm).2;omega)).trans (Below.block hal9 _ hlX),(hg9.block g (lL hgW hal9.size) (λe=>by have:=(hown g e.symm).1;have:=HgR.out;omega)).trans (Below.block hal9 _ hgW),(hg9.block R (lL hrb.lt hal9.size) (λe=>by have:=(hown R e.symm).1;omega)).trans (Below.block hal9 _ hrb.lt)⟩;have hX9:FrX R W20 w9:=FrX.grown2 (((hX.out.fr hf8).drew).alloc _) hg9 (λk hk=>(hown k hk).1);refine hK.out _ _ (HSB.out _ hx9) (λhH5=>?_);clear hK K;(try simp only [Act.put,fl]);have hr9:Blk w9 R _ _:=hx9.2.2.trans hrb;obtain ⟨⟨r0',r1,r2,r3⟩,rf0,rf1,rf2,rf3⟩:=box4r hr9;refine lq 19 [] rfl hH5 ?_;(try simp only [Act.put,fl]);refine OrdL.last rfl (by kernel_rfl) (by kernel_rfl) (λK hK=>?_);go_simp
           refine hK.out _ _ ?_;clear hK K;(try simp only [Act.put,fl]);go_wp2_with fail
           exact ⟨⟨i+1,_,acc++[Pt.callC u],rb,by omega,by go_num,rfl,LH (by rw [Pt.allC_take hlt,HXU.out,HGC.out];rw [HRB2.out];simp),LH (hX9.setCell rfl _),LH (hr9.set 1 _),LH (by rw [HCU.out];exact hs9.frx (λb hb=>Nat.ne_of_lt (HSR.out b hb)) hR20 ((FrX.refl R w9).setCell (p:=⟨R,1,none⟩) rfl _)),LH ⟨λh=>by rw [Pt.take_cc hlt,HXU.out,hA.out.1 h],by simp;omega⟩⟩,by simp [intOf];omega⟩
          ·have qc:(lc.kd != 4)=true:=(ikind kc).2;have HGB:Hid (Pt.goodC u=false):=LH (by rw [hgc,(ikind kc).1];rfl);clear kc hgc;have HF8:Hid (Fr wr (wr.alloc (.cells #[.int .i64 u.kd,.int .i64 u.nm,.string ⟨u.tx.toArray⟩,.slice (some ⟨g,q2,none⟩) 3 e,.slice E' u.ms.length e'] 29))):=LH ((FR wr).alloc _);go_wp2_with fail
           exact ⟨⟨i+1,cs,acc,false,by omega,by go_num,rfl,LH (by rw [Pt.allC_take hlt,HXU.out,HGB.out];simp),LH (hX.out.fr HF8.out),LH (hRr.out.keep HF8.out),LH (hS.out.keep HF8.out),LH ⟨λh=>by simp at h,by omega⟩⟩,by simp [intOf];omega⟩
         ·have qb:(lb.kd != 6)=true:=(ikind kb).2;have HGB:Hid (Pt.goodC u=false):=LH (by rw [hgc,(ikind kb).1];rfl);clear kb hgc;have HF8:Hid (Fr wr (wr.alloc (.cells #[.int .i64 u.kd,.int .i64 u.nm,.string ⟨u.tx.toArray⟩,.slice (some ⟨g,q2,none⟩) 3 e,.slice E' u.ms.length e'] 29))):=LH ((FR wr).alloc _);go_wp2_with fail
          exact ⟨⟨i+1,cs,acc,false,by omega,by go_num,rfl,LH (by rw [Pt.allC_take hlt,HXU.out,HGB.out];simp),LH (hX.out.fr HF8.out),LH (hRr.out.keep HF8.out),LH (hS.out.keep HF8.out),LH ⟨λh=>by simp at h,by omega⟩⟩,by simp [intOf];omega⟩
        ·have qa:(la.kd != 4)=true:=(ikind ka').2;have HGB:Hid (Pt.goodC u=false):=LH (by rw [hgc,(ikind ka').1];rfl);clear ka' hgc;have HF8:Hid (Fr wr (wr.alloc (.cells #[.int .i64 u.kd,.int .i64 u.nm,.string ⟨u.tx.toArray⟩,.slice (some ⟨g,q2,none⟩) 3 e,.slice E' u.ms.length e'] 29))):=LH ((FR wr).alloc _);go_wp2_with fail
         exact ⟨⟨i+1,cs,acc,false,by omega,by go_num,rfl,LH (by rw [Pt.allC_take hlt,HXU.out,HGB.out];simp),LH (hX.out.fr HF8.out),LH (hRr.out.keep HF8.out),LH (hS.out.keep HF8.out),LH ⟨λh=>by simp at h,by omega⟩⟩,by simp [intOf];omega⟩
       ·have q3:¬ ((u.ls.length:Int)=3):=by omega
        have q3b:((u.ls.length:Int) != 3)=true:=(ikind q3).2;have q5:(u.kd != 5)=false:=by rw [bne_eq_false_iff_eq];exact hk
        have HGB:Hid (Pt.goodC u=false):=LH (Pt.goodC_len h3);clear hk h3 hu;have HF8:Hid (Fr wr (wr.alloc (.cells #[.int .i64 u.kd,.int .i64 u.nm,.string ⟨u.tx.toArray⟩,.slice E u.ls.length e,.slice E' u.ms.length e'] 29))):=LH ((FR wr).alloc _);go_wp2_with fail
        exact ⟨⟨i+1,cs,acc,false,by omega,by go_num,rfl,LH (by rw [Pt.allC_take hlt,HXU.out,HGB.out];simp),LH (hX.out.fr HF8.out),LH (hRr.out.keep HF8.out),LH (hS.out.keep HF8.out),LH ⟨λh=>by simp at h,by omega⟩⟩,by simp [intOf];omega⟩
      ·have q5:(u.kd != 5)=true:=(ikind hk).2;have HGB:Hid (Pt.goodC u=false):=LH (Pt.goodC_kd hk);clear hk hu;have HF8:Hid (Fr wr (wr.alloc (.cells #[.int .i64 u.kd,.int .i64 u.nm,.string ⟨u.tx.toArray⟩,.slice E u.ls.length e,.slice E' u.ms.length e'] 29))):=LH ((FR wr).alloc _);go_wp2_with fail
       exact ⟨⟨i+1,cs,acc,false,by omega,by go_num,rfl,LH (by rw [Pt.allC_take hlt,HXU.out,HGB.out];simp),LH (hX.out.fr HF8.out),LH (hRr.out.keep HF8.out),LH (hS.out.keep HF8.out),LH ⟨λh=>by simp at h,by omega⟩⟩,by simp [intOf];omega⟩
     ·obtain rfl:i=x2.ls.length:=by omega
      obtain ⟨W27,hW27⟩:∃ W,W=wr:=⟨wr,rfl⟩;subst hW27;have HAC:=LH hA.out.1;rw [List.take_length] at HRB2 HAC;have HCS:=LH hS.out;have HR27:=LH hRr.out;have HG27:=LH (HG20.out.frx hX.out HXR3.out);have HMG27:=LH (HMG20.out.frxS (λb hb=>⟨Nat.lt_trans (HSR.out b hb) hR20,Nat.ne_of_lt (HSR.out b hb)⟩) hX.out);have HX27:=LH hX.out;have hlA:acc.length<=1048576:=by have:=hA.out.2;omega
      clear hS hRr hX hA hi hlt;have hR27:R<W27.heap.size:=HR27.out.lt;have hnR3:X3≠R:=HXR3.out;obtain ⟨⟨g0,g1,g2,g3,g4⟩,_⟩:=box5 HG27.out;go_upto_region 28 with fail
      clear g0 g1 g2 g3 g4 d0 d1 d2 d3 d4;go_loopw [15,21] (λa j wz=>∃ (i:Nat) (crs:Value) (rc:Bool),i<=x3.ms.length/\j=.int .i64 i/\a=.bool rc/\Hid (rc=(rb && !(x3.ms.take i).any Pt.badM))/\Hid (FrX R W27 wz)/\Hid (Blk wz R #[us,cs,crs,.bool false] 32)/\Hid (MsB wz R W27.heap.size crs (x3.ms.take i))) (λ_ j _=>x3.ms.length - (intOf j).toNat)
      case atStart=>exact ⟨0,_,rb,by omega,rfl,rfl,LH (by rw [List.take_zero];simp),LH (FrX.refl R W27),HR27,LH (MsB.none_ _ ⟨Nat.le_of_lt hR27,lR _⟩)⟩
      case round=>
       obtain ⟨i,crs,rc,hi,rfl,rfl,hrc,hX,hRr,hM⟩:=hrel;have HRC:=LH hrc.out;clear hrc;obtain ⟨⟨g0,g1,g2,g3,g4⟩,_⟩:=box5 (HG27.out.frx hX.out hnR3);by_cases hlt:i<x3.ms.length
       ·have hlt':(i:Int)<(x3.ms.length:Int):=by omega
        obtain ⟨b5,o5,E,e,E',e',rfl,hbb,hnl,c0,⟨n0,n1,n2,n3,n4⟩,hu⟩:=(HMG27.out.frxS (λb hb=>⟨Nat.lt_trans (HSR.out b hb) hR27,Nat.ne_of_lt (HSR.out b hb)⟩) hX.out) i hlt;obtain ⟨nm,hnm⟩:∃ nm,x3.ms[i].1=nm:=⟨_,rfl⟩;obtain ⟨u,hxu⟩:∃ u,x3.ms[i].2=u:=⟨_,rfl⟩;have HMU:Hid (x3.ms[i]=(nm,u)):=LH (by rw [<- hnm,<- hxu]);rw [hnm] at c0 hnl;rw [hxu] at n0 n1 n2 n3 n4 hu;have HU:=LH hu;have HNL:=LH hnl;have htx:=hu.facts.2.2.1;clear hnm hxu hu hnl hbb;go_upto_region 31 with fail
        have hb6:=Blk.made wr #[.string ⟨nm.toArray⟩,.int .i64 u.kd,.int .i64 u.nm,.string ⟨u.tx.toArray⟩,.slice E u.ls.length e,.slice E' u.ms.length e'] 44;have hf6:Fr wr (wr.alloc (.cells #[.string ⟨nm.toArray⟩,.int .i64 u.kd,.int .i64 u.nm,.string ⟨u.tx.toArray⟩,.slice E u.ls.length e,.slice E' u.ms.length e'] 44)):=(FR wr).alloc _;generalize (wr.alloc (.cells #[.string ⟨nm.toArray⟩,.int .i64 u.kd,.int .i64 u.nm,.string ⟨u.tx.toArray⟩,.slice E u.ls.length e,.slice E' u.ms.length e'] 44))=W6 at hb6 hf6 ⊢;generalize wr.heap.size=X6 at hb6 ⊢;have HB6:=LH hb6;have HF6:=LH hf6;have y0:=hb6.cell 0;have y1:=hb6.cell 1;have y2:=hb6.cell 2;have y3:=hb6.cell 3;have y4:=hb6.cell 4;have y5:=hb6.cell 5;simp at y0 y1 y2 y3 y4 y5;clear hb6 hf6 c0 n0 n1 n2 n3 n4 g0 g1 g2 g3 g4;obtain ⟨ci,hci⟩:∃ b,Idn.isId u.tx=b:=⟨_,rfl⟩;obtain ⟨rc2,hrc2⟩:∃ b,b=(rc && ((u.kd == 4) && ci)):=⟨_,rfl⟩;have HRC2:=LH hrc2;have HIS:Hid (∀ W,Calls Tryz.prog 33 #[.string ⟨u.tx.toArray⟩] W λe w'=>e=.returned (.bool ci)/\W=w'):=LH (λW=>by
         have:=ris_id_any ⟨u.tx.toArray⟩ W (by unfold maxLen;simp [ByteArray.size];omega);rw [<- hci];exact this)
        have HCI:=LH hci;clear hrc2 hci;go_cut [15] from 184 to 214 (λa wx=>a=.bool rc2/\Hid (Fr W6 wx))
        case first=>
         cases rc
         ·obtain rfl:rc2=false:=HRC2.out;go_wp2_with fail
          go_meet
          exact ⟨rfl,LH (FR _)⟩
         ·by_cases k4:u.kd=4
          ·have b4:(u.kd == 4)=true:=by rw [beq_iff_eq];exact k4
           obtain rfl:rc2=ci:=by rw [HRC2.out,b4];rfl
           clear k4;go_wp2_with (go_at_call 33;refine (HIS.out _).mono ?_;rintro e w7 ⟨rfl,rfl⟩)
           go_meet
           exact ⟨rfl,LH (FR _)⟩
          ·have b4:(u.kd == 4)=false:=(ikind k4).1;obtain rfl:rc2=false:=by rw [HRC2.out,b4];rfl
           clear k4;go_wp2_with fail
           go_meet
           exact ⟨rfl,LH (FR _)⟩
        case rest=>
         obtain ⟨rfl,hFd⟩:=hcut;obtain ⟨W8,hW8⟩:∃ W,W=wc:=⟨wc,rfl⟩;subst hW8;clear y0 y1 y2 y3 y4 y5;have hb8:=HB6.out.keep hFd.out;have HF8:=LH (HF6.out.trans hFd.out);clear HF6 HB6 hFd;have y0:=hb8.cell 0;have y1:=hb8.cell 1;have y2:=hb8.cell 2;have y3:=hb8.cell 3;have y4:=hb8.cell 4;have y5:=hb8.cell 5;simp at y0 y1 y2 y3 y4 y5;have hr8:=hRr.out.keep HF8.out;obtain ⟨⟨r0',r1,r2,r3⟩,rf0,rf1,rf2,rf3⟩:=box4r hr8;have HR8:=LH hr8;have HM8:=LH (hM.out.keep HF8.out);have hu8:=(HU.out.keepS (λb hb=>Nat.lt_trans (HSR.out b hb) hRr.out.lt) HF8.out).more (S':=Lo R) (λb hb=>HSR.out b hb);have hmin:(x3.ms.take i++[(nm,u)]).length=i+1:=by simp;omega
         have hk96:((x3.ms.take i).length+1)*96<=140737488355328:=by simp;omega
         clear hb8 hr8 htx;go_wp2_with (at_builtin;refine wpl_mB_lit rfl (.tmp 210) (.tmp 212) rfl R W27.heap.size crs _ rfl HM8.out nm u E e E' e' rfl HNL.out hu8 rfl rfl hk96 ?_;intro v9 w9 hs9 hg9 _;obtain ⟨A9,c9,e9⟩:=hs9.is_slice;replace e9:v9=.slice A9 (i+1) c9:=(by rw [e9,hmin]);subst e9;have HS9:=LH hs9;have HX9:Hid (FrX R W27 w9):=LH (FrX.grown2 ((hX.out.fr HF8.out).alloc _) hg9 (λk hk=>(HM8.out.own_lt hk).1));have hr9:Blk w9 R _ _:=(hg9.block R (lL HR8.out.lt ((FR _).alloc _).size) (λe=>by have:=(HM8.out.own_lt e.symm).1;omega)).trans (HR8.out.keep ((FR _).alloc _));obtain ⟨⟨q0,q1,q2,q3⟩,qf0,qf1,qf2,qf3⟩:=box4r hr9;have HR9:=LH hr9;clear hs9 hg9 hr9)
         exact ⟨⟨i+1,_,rc2,by omega,by go_num,rfl,LH (by rw [Pt.oddM_take hlt,HMU.out,HRC2.out,HRC.out,Bool.not_or,Pt.badM_not,HCI.out,Bool.and_assoc]),LH (HX9.out.setCell rfl _),LH (HR9.out.set 2 _),LH (by rw [List.take_succ_eq_append_getElem hlt,HMU.out];exact HS9.out.frx (lR _) hR27 ((FrX.refl R w9).setCell (p:=⟨R,2,none⟩) rfl _))⟩,by simp [intOf];omega⟩
       ·obtain rfl:i=x3.ms.length:=by omega
        obtain ⟨W33,hW33⟩:∃ W,W=wr:=⟨wr,rfl⟩;subst hW33;rw [List.take_length] at HRC;have hm33:=hM.out;rw [List.take_length] at hm33;have HM33:=LH hm33;have HR33:=LH hRr.out;have HX33:=LH hX.out;clear hM hRr hX hi hlt hm33;obtain ⟨⟨r0',r1,r2,r3⟩,rf0,rf1,rf2,rf3⟩:=box4r HR33.out;go_upto_region 34 with fail
        have hx34:FrX R W33 (W33.setCell ⟨R,3,none⟩ (.bool t3)):=(FrX.refl R W33).setCell rfl _;have hr34:Blk (W33.setCell ⟨R,3,none⟩ (.bool t3)) R #[us,cs,crs,.bool t3] 32:=HR33.out.set 3 (.bool t3);clear r0' r1 r2 r3 rf0 rf1 rf2 rf3 g0 g1 g2 g3 g4;generalize (W33.setCell ⟨R,3,none⟩ (.bool t3))=W34 at hx34 hr34 ⊢;have hxx:FrX R W11 W34:=HX20.out.trans (HX27.out.trans (HX33.out.trans hx34));have HM34:=LH (HM33.out.frx (lR _) hR27 hx34);have HS34:=LH (Row.frx HSS.out HRc.out.lt (HX27.out.trans (HX33.out.trans hx34)));have HC34:=LH (HCS.out.frx (λb hb=>Nat.ne_of_lt (HSR.out b hb)) hR20 (HX33.out.trans hx34));have HR34:=LH hr34;have HX9:=LH ((HX7.out.keep HKc.out).frx hxx HXR.out.1);have HY9:=LH ((HY7.out.keep HKc.out).frx hxx HXR.out.2.1);have HN9:=LH ((HN7.out.keep HKc.out).frx hxx HXR.out.2.2);have HW9:Hid (Fr w W34):=LH (Fr.thenX (HF7.out.trans HKc.out) HwR.out.1 (Nat.le_of_lt HRc.out.lt) hxx);have hRK:R<W11.heap.size:=HRc.out.lt;have HSZ:Hid (W11.heap.size<=W20.heap.size/\W20.heap.size<=W27.heap.size/\W27.heap.size<=W34.heap.size):=LH ⟨HX20.out.size,HX27.out.size,(HX33.out.trans hx34).size⟩;have hpf:Pt.fine v=rc:=by rw [HFI.out,HRC.out,HRB2.out,HRA.out]
        have hpr:r=if rc=false then .bad Pt.kReq [] else if Pt.odd (x1.ls.map JV.tx)=true then .bad Pt.kCap [] else if 16<x2.ls.length then .bad Pt.kLim Pt.kCalls else .ok (Pt.reqOf v):=by
         rw [<- HRR.out];unfold Pt.parseV;rw [hpf,HGX.out.1,HGX.out.2.1]
        have HPR:=LH hpr;have HPF:=LH hpf;clear hx34 hr34 hxx hpf hpr
        cases rc
        ·have HRB:Hid (r=.bad Pt.kReq []):=LH (by rw [HPR.out,if_pos rfl]);go_upto_region 35 with fail
         refine wp_region_held_drew (S:=(λW=>W.cell? ⟨N,0,none⟩=some (.slice none 0 0)/\W.cell? ⟨N,1,none⟩=some (.slice none 0 0)/\W.cell? ⟨N,2,none⟩=some (.slice none 0 0)/\W.cell? ⟨N,3,none⟩=some (.bool false))) (by kernel_rfl) ?_ (λhHeld=>?_)
         ·exact HNS.out _ (HN9.out.keep (FR W34).drew)
         refine tq 0 rfl hHeld ?_;(try simp only [Act.put,fl]);refine rq 1 rfl (λK hK=>?_);go_simp
         (go_at_call 18;refine (HP1.out _).mono ?_;rintro e w5 ⟨D,g,rfl,hm,hf⟩;have hf5:=(FR W34).drew.trans hf;obtain ⟨⟨r0,r1,r2,r3⟩,rf0,rf1,rf2,rf3⟩:=box4r (HX9.out.keep hf5);obtain ⟨⟨y0,y1,y2,y3,y4⟩,yf0,yf1,yf2,yf3,yf4⟩:=box5 (HY9.out.keep hf5);have HM5:=LH (hm.lower (Nat.zero_le _) (lR _));have HN5:=LH (HN9.out.keep hf5);have HF5:=LH hf5;clear hm hf hf5)
         try (refine hK.out _ _ ?_ (λhHeld2=>?_))
         ·exact HNS.out _ HN5.out
         clear hK K;(try simp only [Act.put,fl]);refine rq 2 rfl (λK hK=>?_);go_simp
         refine hK.out _ _ (HNS.out _ (HN5.out.frx (st4_frx _ X _ _ _ _) nNX)) (λhH3=>?_);clear hK K;(try simp only [Act.put,fl]);refine rq 3 rfl (λK hK=>?_);go_simp
         refine hK.out _ _ (HNS.out _ ((HN5.out.frx (st4_frx _ X _ _ _ _) nNX).frx (st5_frx _ Y _ _ _ _ _) nNY)) (λhH4=>?_);clear hK K;(try simp only [Act.put,fl]);refine wpAnyH_done (by kernel_rfl) ?_ _;obtain ⟨h1,h2,h3⟩:=prq_bad (K:=Pt.kReq) (L:=[]) (n:=2) rfl hXY.out ⟨HXw.out,HX9.out.lt⟩ ⟨HYw.out,HY9.out.lt⟩ (HX9.out.keep HF5.out) (HY9.out.keep HF5.out) HW9.out HF5.out HM5.out;unfold st5 st4 at h1 h2 h3;clear hHeld hHeld2 hH3 hH4 r0 r1 r2 r3 rf0 rf1 rf2 rf3 y0 y1 y2 y3 y4 yf0 yf1 yf2 yf3 yf4;generalize (((((((((w5.setCell ⟨X,0,none⟩ (.slice none 0 0)).setCell ⟨X,1,none⟩ (.slice none 0 0)).setCell ⟨X,2,none⟩ (.slice none 0 0)).setCell ⟨X,3,none⟩ (.bool false)).setCell ⟨Y,0,none⟩ (.int .i64 6)).setCell ⟨Y,1,none⟩ (.int .i64 0)).setCell ⟨Y,2,none⟩ (.string ⟨#[]⟩)).setCell ⟨Y,3,none⟩ (.slice none 0 0)).setCell ⟨Y,4,none⟩ (.slice D 2 g))=W99 at h1 h2 h3 ⊢;have HH1:=LH h1;have HH2:=LH h2;have HH3:=LH h3;clear h1 h2 h3;repeat (first | go_skip | go_step)
         rw [HRB.out];exact bodyPost_ret (results_rq (by rfl) rfl rfl _ X Y (by rfl) (by rfl) _ _ _ _ _ _ _ _ _ HH1.out HH2.out) rfl HH3.out
        ·have hrb1:rb=true:=bool_left HRC.out;have HAE:=LH (HAC.out hrb1);clear hrb1
         cases ka
         ·have HRB:Hid (r=.bad Pt.kCap []):=LH (by rw [HPR.out,if_neg (by decide),if_pos (bool_not2 HKA.out)]);go_upto_region 37 with fail
          refine wp_region_held_drew (S:=(λW=>W.cell? ⟨N,0,none⟩=some (.slice none 0 0)/\W.cell? ⟨N,1,none⟩=some (.slice none 0 0)/\W.cell? ⟨N,2,none⟩=some (.slice none 0 0)/\W.cell? ⟨N,3,none⟩=some (.bool false))) (by kernel_rfl) ?_ (λhHeld=>?_)
          ·exact HNS.out _ (HN9.out.keep (FR W34).drew)
          refine tq 0 rfl hHeld ?_;(try simp only [Act.put,fl]);refine rq 1 rfl (λK hK=>?_);go_simp
          (go_at_call 18;refine (HP2.out _).mono ?_;rintro e w5 ⟨D,g,rfl,hm,hf⟩;have hf5:=(FR W34).drew.trans hf;obtain ⟨⟨r0,r1,r2,r3⟩,rf0,rf1,rf2,rf3⟩:=box4r (HX9.out.keep hf5);obtain ⟨⟨y0,y1,y2,y3,y4⟩,yf0,yf1,yf2,yf3,yf4⟩:=box5 (HY9.out.keep hf5);have HM5:=LH (hm.lower (Nat.zero_le _) (lR _));have HN5:=LH (HN9.out.keep hf5);have HF5:=LH hf5;clear hm hf hf5)
          try (refine hK.out _ _ ?_ (λhHeld2=>?_))
          ·exact HNS.out _ HN5.out
          clear hK K;(try simp only [Act.put,fl]);refine rq 2 rfl (λK hK=>?_);go_simp
          refine hK.out _ _ (HNS.out _ (HN5.out.frx (st4_frx _ X _ _ _ _) nNX)) (λhH3=>?_);clear hK K;(try simp only [Act.put,fl]);refine rq 3 rfl (λK hK=>?_);go_simp
          refine hK.out _ _ (HNS.out _ ((HN5.out.frx (st4_frx _ X _ _ _ _) nNX).frx (st5_frx _ Y _ _ _ _ _) nNY)) (λhH4=>?_);clear hK K;(try simp only [Act.put,fl]);refine wpAnyH_done (by kernel_rfl) ?_ _;obtain ⟨h1,h2,h3⟩:=prq_bad (K:=Pt.kCap) (L:=[]) (n:=2) rfl hXY.out ⟨HXw.out,HX9.out.lt⟩ ⟨HYw.out,HY9.out.lt⟩ (HX9.out.keep HF5.out) (HY9.out.keep HF5.out) HW9.out HF5.out HM5.out;unfold st5 st4 at h1 h2 h3;clear hHeld hHeld2 hH3 hH4 r0 r1 r2 r3 rf0 rf1 rf2 rf3 y0 y1 y2 y3 y4 yf0 yf1 yf2 yf3 yf4;generalize (((((((((w5.setCell ⟨X,0,none⟩ (.slice none 0 0)).setCell ⟨X,1,none⟩ (.slice none 0 0)).setCell ⟨X,2,none⟩ (.slice none 0 0)).setCell ⟨X,3,none⟩ (.bool false)).setCell ⟨Y,0,none⟩ (.int .i64 6)).setCell ⟨Y,1,none⟩ (.int .i64 0)).setCell ⟨Y,2,none⟩ (.string ⟨#[]⟩)).setCell ⟨Y,3,none⟩ (.slice none 0 0)).setCell ⟨Y,4,none⟩ (.slice D 2 g))=W99 at h1 h2 h3 ⊢;have HH1:=LH h1;have HH2:=LH h2;have HH3:=LH h3;clear h1 h2 h3;repeat (first | go_skip | go_step)
          rw [HRB.out];exact bodyPost_ret (results_rq (by rfl) rfl rfl _ X Y (by rfl) (by rfl) _ _ _ _ _ _ _ _ _ HH1.out HH2.out) rfl HH3.out
         ·have hodd:Pt.odd (x1.ls.map JV.tx)=false:=bool_not HKA.out;have HODD:=LH hodd;clear hodd;obtain ⟨Ac,cc,rfl,hcr⟩:=HC34.out.shows;have hal2:acc.length=x2.ls.length:=by rw [HAE.out];simp
          have HAL:=LH hal2;clear hal2 hcr;have hlA':(acc.length:Int)<=1048576:=by omega
          obtain ⟨⟨k0,k1,k2,k3⟩,_⟩:=box4r HR34.out;by_cases h16:16<acc.length
          ·have h16':(16:Int)<(acc.length:Int):=by omega
           have HRB:Hid (r=.bad Pt.kLim Pt.kCalls):=LH (by rw [HPR.out,if_neg (by decide),HODD.out,if_neg (by decide),if_pos (by have:=HAL.out;omega)]);clear h16;go_upto_region 39 with fail
           clear k0 k1 k2 k3;refine wp_region_held_drew (S:=(λW=>W.cell? ⟨N,0,none⟩=some (.slice none 0 0)/\W.cell? ⟨N,1,none⟩=some (.slice none 0 0)/\W.cell? ⟨N,2,none⟩=some (.slice none 0 0)/\W.cell? ⟨N,3,none⟩=some (.bool false))) (by kernel_rfl) ?_ (λhHeld=>?_)
           ·exact HNS.out _ (HN9.out.keep (FR W34).drew)
           refine tq 0 rfl hHeld ?_;(try simp only [Act.put,fl]);refine rq 1 rfl (λK hK=>?_);go_simp
           (go_at_call 18;refine (HP3.out _).mono ?_;rintro e w5 ⟨D,g,rfl,hm,hf⟩;have hf5:=(FR W34).drew.trans hf;obtain ⟨⟨r0,r1,r2,r3⟩,rf0,rf1,rf2,rf3⟩:=box4r (HX9.out.keep hf5);obtain ⟨⟨y0,y1,y2,y3,y4⟩,yf0,yf1,yf2,yf3,yf4⟩:=box5 (HY9.out.keep hf5);have HM5:=LH (hm.lower (Nat.zero_le _) (lR _));have HN5:=LH (HN9.out.keep hf5);have HF5:=LH hf5;clear hm hf hf5)
           try (refine hK.out _ _ ?_ (λhHeld2=>?_))
           ·exact HNS.out _ HN5.out
           clear hK K;(try simp only [Act.put,fl]);refine rq 2 rfl (λK hK=>?_);go_simp
           refine hK.out _ _ (HNS.out _ (HN5.out.frx (st4_frx _ X _ _ _ _) nNX)) (λhH3=>?_);clear hK K;(try simp only [Act.put,fl]);refine rq 3 rfl (λK hK=>?_);go_simp
           refine hK.out _ _ (HNS.out _ ((HN5.out.frx (st4_frx _ X _ _ _ _) nNX).frx (st5_frx _ Y _ _ _ _ _) nNY)) (λhH4=>?_);clear hK K;(try simp only [Act.put,fl]);refine wpAnyH_done (by kernel_rfl) ?_ _;obtain ⟨h1,h2,h3⟩:=prq_bad (K:=Pt.kLim) (L:=Pt.kCalls) (n:=3) rfl hXY.out ⟨HXw.out,HX9.out.lt⟩ ⟨HYw.out,HY9.out.lt⟩ (HX9.out.keep HF5.out) (HY9.out.keep HF5.out) HW9.out HF5.out HM5.out;unfold st5 st4 at h1 h2 h3;clear hHeld hHeld2 hH3 hH4 r0 r1 r2 r3 rf0 rf1 rf2 rf3 y0 y1 y2 y3 y4 yf0 yf1 yf2 yf3 yf4;generalize (((((((((w5.setCell ⟨X,0,none⟩ (.slice none 0 0)).setCell ⟨X,1,none⟩ (.slice none 0 0)).setCell ⟨X,2,none⟩ (.slice none 0 0)).setCell ⟨X,3,none⟩ (.bool false)).setCell ⟨Y,0,none⟩ (.int .i64 6)).setCell ⟨Y,1,none⟩ (.int .i64 0)).setCell ⟨Y,2,none⟩ (.string ⟨#[]⟩)).setCell ⟨Y,3,none⟩ (.slice none 0 0)).setCell ⟨Y,4,none⟩ (.slice D 3 g))=W99 at h1 h2 h3 ⊢;have HH1:=LH h1;have HH2:=LH h2;have HH3:=LH h3;clear h1 h2 h3;repeat (first | go_skip | go_step)
           rw [HRB.out];exact bodyPost_ret (results_rq (by rfl) rfl rfl _ X Y (by rfl) (by rfl) _ _ _ _ _ _ _ _ _ HH1.out HH2.out) rfl HH3.out
          ·have h16':¬ (16:Int)<(acc.length:Int):=by omega
           have hreq:Pt.reqOf v=((x1.ls.map JV.tx,acc),(x3.ms,t3)):=by
            unfold Pt.reqOf;obtain ⟨e1,e2,e3,e4⟩:=HGX.out;rw [e1,e2,e3,e4,<- HAE.out]
           have hokm:Pt.okM v=true:=by
            have:=HPF.out;unfold Pt.fine at this;simp only [Bool.and_eq_true] at this;exact this.2.2.2
           have hleaf:=Pt.leafM HOK.out hokm;rw [HGX.out.2.2.1] at hleaf;have hm0:=HM34.out.leaf0 hleaf;have HRB:Hid (r=.ok ((x1.ls.map JV.tx,acc),(x3.ms,t3))):=LH (by rw [HPR.out,if_neg (by decide),HODD.out,if_neg (by decide),if_neg (by have:=HAL.out;omega),hreq]);obtain ⟨Lu,hLu⟩:∃ L,x1.ls.map JV.tx=L:=⟨_,rfl⟩;have hs34:Ssl W34 W11.heap.size us (x1.ls.map JV.tx):=HS34.out;rw [hLu] at HRB hs34;obtain ⟨Au,cu,rfl,_⟩:=hs34.shows;obtain ⟨Am,cm,rfl⟩:=hm0.is_slice;obtain ⟨⟨k0,k1,k2,k3⟩,_⟩:=box4r HR34.out;have HS9:=LH hs34;have HM9:=LH hm0;clear h16 hreq hokm hleaf hm0 hLu hs34;obtain ⟨⟨r0',r1,r2,r3⟩,rf0,rf1,rf2,rf3⟩:=box4r HX9.out;obtain ⟨⟨y0,y1,y2,y3,y4⟩,yf0,yf1,yf2,yf3,yf4⟩:=box5 HY9.out;have nRX:¬ R=X:=λe=>HXR.out.1 e.symm
           have nRY:¬ R=Y:=λe=>HXR.out.2.1 e.symm
           have nXR:¬ X=R:=HXR.out.1;have nYR:¬ Y=R:=HXR.out.2.1;go_upto_region 40 with fail
           repeat (first | go_values | go_skip | go_guarded | go_step | go_upon)
           rw [HRB.out];have hb1:=(st4_x HX9.out (.slice Au Lu.length cu) (.slice Ac acc.length cc) (.slice Am x3.ms.length cm) (.bool t3)).frx (st5_frx _ Y (.int .i64 0) (.int .i64 0) (.string ⟨#[]⟩) (.slice none 0 0) (.slice none 0 0)) (λe=>hXY.out e.symm);have hb2:=st5_x (HY9.out.frx (st4_frx _ X (.slice Au Lu.length cu) (.slice Ac acc.length cc) (.slice Am x3.ms.length cm) (.bool t3)) hXY.out) (.int .i64 0) (.int .i64 0) (.string ⟨#[]⟩) (.slice none 0 0) (.slice none 0 0);refine bodyPost_ret (results_rq (by rfl) rfl rfl _ X Y (by rfl) (by rfl) _ _ _ _ _ _ _ _ _ hb1 hb2) rfl ?_;have hXK:X<W11.heap.size:=lL HX7.out.lt HKc.out.size;have hYK:Y<W11.heap.size:=lL HY7.out.lt HKc.out.size;have hs1:=Row.frx (Row.frx HS9.out hXK (st4_frx _ X (.slice Au Lu.length cu) (.slice Ac acc.length cc) (.slice Am x3.ms.length cm) (.bool t3))) hYK (st5_frx _ Y (.int .i64 0) (.int .i64 0) (.string ⟨#[]⟩) (.slice none 0 0) (.slice none 0 0));have hs2:=(((HC34.out.lower (λb hb=>Nat.lt_trans (HSR.out b hb) hRK) HSZ.out.1).frx (λb hb=>(HSX.out b hb).1) hXK (st4_frx _ X (.slice Au Lu.length cu) (.slice Ac acc.length cc) (.slice Am x3.ms.length cm) (.bool t3))).frx (λb hb=>(HSX.out b hb).2) hYK (st5_frx _ Y (.int .i64 0) (.int .i64 0) (.string ⟨#[]⟩) (.slice none 0 0) (.slice none 0 0)));have hs3:=(((HM9.out.lower (Nat.zero_le _) (lT HSZ.out.1 HSZ.out.2.1)).frx (Nat.zero_le _) hXK (st4_frx _ X (.slice Au Lu.length cu) (.slice Ac acc.length cc) (.slice Am x3.ms.length cm) (.bool t3))).frx (Nat.zero_le _) hYK (st5_frx _ Y (.int .i64 0) (.int .i64 0) (.string ⟨#[]⟩) (.slice none 0 0) (.slice none 0 0)));exact ⟨⟨_,_,_,Sv,W11.heap.size,rfl,hs2.1.2,hs1,hs2,hs3⟩,st5_fr (st4_fr HW9.out HXw.out _ _ _ _) HYw.out _ _ _ _ _⟩

theorem rparse_is (s:ByteArray) (w:World) (hs:s.size<=140737488351232) (hT:PtTab w):Calls Tryz.prog 8 #[.string s] w (RqP w (Pt.parse s.data.toList)):=by
 have hl:s.data.toList.length=s.size:=by simp
 unfold Pt.parse;rw [hl];split
 ·rename_i h;exact rparse_big s w hs h
 ·rename_i h
  cases hr:Rd.rdS s.data.toList with
  | out=>exact absurd hr (Rd.rdS_out _)
  | bad a c=>exact rparse_no s a c w (by omega) hT hr
  | ok v l q=>exact rparse_v s v l q w (by omega) hT hr _ rfl
/- Chapter 25: EnvelopeParses' walk. -/

end Go.Proofs.YtockgemmkjdnkaaGreatDoor
