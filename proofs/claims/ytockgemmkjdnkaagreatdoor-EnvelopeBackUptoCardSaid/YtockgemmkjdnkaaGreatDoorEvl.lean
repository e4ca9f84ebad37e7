/- Chapter 25: Parse. -/
import Derived.Test.YtockgemmkjdnkaaGreatDoorEvk
import Derived.Test.YtockgemmkjdnkaaGreatDoorRdd
import Derived.Test.YtockgemmkjdnkaaGreatDoorPb
namespace Go.Proofs.YtockgemmkjdnkaaGreatDoor
set_option maxRecDepth 100000
set_option maxHeartbeats 2000000
set_option linter.unusedVariables false
set_option linter.unusedSimpArgs false
open Go.RowKit

theorem CsB.more {w:World} {S S':Nat→Prop} {K:Nat} {v:Value} {l:List CallV} (h:CsB w S K v l) (hS:∀ b,S b→S' b) (hK:∀ b,S' b→b<K):CsB w S' K v l:=by
 obtain ⟨h0,xs,h1,h2,h3⟩:=h
 exact ⟨⟨hK,h0.2⟩,xs,h1,h2,fun i a b=>⟨(h3 i a b).1,(h3 i a b).2.more hS⟩⟩
def st4 (w:World) (X:Nat) (a b c d:Value):World:=(((w.setCell ⟨X,0,none⟩ a).setCell ⟨X,1,none⟩ b).setCell ⟨X,2,none⟩ c).setCell ⟨X,3,none⟩ d
def st5 (w:World) (X:Nat) (a b c d e:Value):World:=((((w.setCell ⟨X,0,none⟩ a).setCell ⟨X,1,none⟩ b).setCell ⟨X,2,none⟩ c).setCell ⟨X,3,none⟩ d).setCell ⟨X,4,none⟩ e
theorem st4_frx (w:World) (X:Nat) (a b c d:Value):FrX X w (st4 w X a b c d):=((((FrX.refl X w).setCell rfl _).setCell rfl _).setCell rfl _).setCell rfl _
theorem st5_frx (w:World) (X:Nat) (a b c d e:Value):FrX X w (st5 w X a b c d e):=(((((FrX.refl X w).setCell rfl _).setCell rfl _).setCell rfl _).setCell rfl _).setCell rfl _
theorem st4_fr {w W:World} (h:Fr w W) {X:Nat} (hX:w.heap.size≤X) (a b c d:Value):Fr w (st4 W X a b c d):=(((h.setCell (p:=⟨X,0,none⟩) hX _).setCell (p:=⟨X,1,none⟩) hX _).setCell (p:=⟨X,2,none⟩) hX _).setCell (p:=⟨X,3,none⟩) hX _
theorem st5_fr {w W:World} (h:Fr w W) {X:Nat} (hX:w.heap.size≤X) (a b c d e:Value):Fr w (st5 W X a b c d e):=((((h.setCell (p:=⟨X,0,none⟩) hX _).setCell (p:=⟨X,1,none⟩) hX _).setCell (p:=⟨X,2,none⟩) hX _).setCell (p:=⟨X,3,none⟩) hX _).setCell (p:=⟨X,4,none⟩) hX _
theorem st4_x {W:World} {X:Nat} {x0 x1 x2 x3:Value} {t:TypeId} (h:Blk W X #[x0,x1,x2,x3] t) (a b c d:Value):Blk (st4 W X a b c d) X #[a,b,c,d] t:=(((h.set 0 a).set 1 b).set 2 c).set 3 d
theorem st5_x {W:World} {X:Nat} {x0 x1 x2 x3 x4:Value} {t:TypeId} (h:Blk W X #[x0,x1,x2,x3,x4] t) (a b c d e:Value):Blk (st5 W X a b c d e) X #[a,b,c,d,e] t:=((((h.set 0 a).set 1 b).set 2 c).set 3 d).set 4 e
theorem results_rv {fn:Func} {p q:Tmp} {t1 t2:TypeId} (hf:fn.results=#[.cell p t1,.cell q t2]) (h1:t1=26) (h2:t2=29) (w:World) (X Y:Nat) {tmps:Array Value} (hp:tmps.getD p undef=.pointer (some ⟨X,0,none⟩)) (hq:tmps.getD q undef=.pointer (some ⟨Y,0,none⟩))
  (a b c d v0 v1 v2 v3 v4:Value) (hX:Blk w X #[a,b,c,d] 26) (hY:Blk w Y #[v0,v1,v2,v3,v4] 29):
  (results fn tmps).run Tryz.prog w=.ok (.tuple #[.agg #[a,b,c,d],.agg #[v0,v1,v2,v3,v4]]) w:=by
 subst h1;subst h2
 have x0:=hX.cell 0
 have x1:=hX.cell 1
 have x2:=hX.cell 2
 have x3:=hX.cell 3
 have a0:=hY.cell 0
 have a1:=hY.cell 1
 have a2:=hY.cell 2
 have a3:=hY.cell 3
 have a4:=hY.cell 4
 simp at hp hq x0 x1 x2 x3 a0 a1 a2 a3 a4
 simp [results,hf,hp,hq,go_sem,x0,x1,x2,x3,a0,a1,a2,a3,a4]

def PrP (w:World):Pt.Pa→Ending→World→Prop
 | .bad K L,e,w'=>(∃ (D:Option Addr) (g:Nat),e=.returned (.tuple #[.agg #[.slice none 0 0,.slice none 0 0,.slice none 0 0,.bool false],.agg #[.int .i64 6,.int .i64 0,.string ⟨#[]⟩,.slice none 0 0,.slice D (Pt.prM K L).length g]])∧MsB w' 0 w.heap.size (.slice D (Pt.prM K L).length g) (Pt.prM K L))∧Fr w w'
 | .ok r,e,w'=>(∃ (us cs crs:Value) (Z:Nat),e=.returned (.tuple #[.agg #[us,cs,crs,.bool r.2.2],.agg #[.int .i64 0,.int .i64 0,.string ⟨#[]⟩,.slice none 0 0,.slice none 0 0]])∧w.heap.size≤Z∧Z≤w'.heap.size∧Ssl w' Z us r.1.1∧CsB w' (Be w.heap.size Z) Z cs r.1.2∧MsB w' 0 Z crs r.2.1)∧Fr w w'
theorem eprob (K L:List UInt8) (hK:K.length≤1000) (hL:L.length≤1000) (n:Nat) (hn:n=(Pt.prM K L).length) (w:World):
  Calls Tryz.prog 20 #[.string ⟨K.toArray⟩,.string ⟨L.toArray⟩] w fun e w'=>∃ (D:Option Addr) (g:Nat),e=.returned (.agg #[.int .i64 6,.int .i64 0,.string ⟨#[]⟩,.slice none 0 0,.slice D n g])∧MsB w' 0 w.heap.size (.slice D n g) (Pt.prM K L)∧Fr w w':=by
 refine (eproblem_is ⟨K.toArray⟩ ⟨L.toArray⟩ w (by simp [ByteArray.size];omega) (by simp [ByteArray.size];omega) n ?_).mono ?_
 ·rw [hn];unfold Pt.prM;show _=if L=[] then 2 else 3;split <;> rfl
 ·rintro e w' ⟨⟨D,g,he,hm,_⟩,hf⟩
  exact ⟨D,g,he,hm,hf⟩
theorem prp_bad {w W w5:World} {X Y:Nat} {a b c d v0 v1 v2 v3 v4:Value} {K L:List UInt8} {D:Option Addr} {n g:Nat} (hn:n=(Pt.prM K L).length) (hXY:Y≠X) (hX:w.heap.size≤X∧X<W.heap.size) (hY:w.heap.size≤Y∧Y<W.heap.size) (hx:Blk w5 X #[a,b,c,d] 26) (hy:Blk w5 Y #[v0,v1,v2,v3,v4] 29) (hf:Fr w W) (h5:Fr W w5) (hm:MsB w5 0 W.heap.size (.slice D n g) (Pt.prM K L)):
  Blk (st5 (st4 w5 X (.slice none 0 0) (.slice none 0 0) (.slice none 0 0) (.bool false)) Y (.int .i64 6) (.int .i64 0) (.string ⟨#[]⟩) (.slice none 0 0) (.slice D n g)) X #[.slice none 0 0,.slice none 0 0,.slice none 0 0,.bool false] 26 ∧
  Blk (st5 (st4 w5 X (.slice none 0 0) (.slice none 0 0) (.slice none 0 0) (.bool false)) Y (.int .i64 6) (.int .i64 0) (.string ⟨#[]⟩) (.slice none 0 0) (.slice D n g)) Y #[.int .i64 6,.int .i64 0,.string ⟨#[]⟩,.slice none 0 0,.slice D n g] 29 ∧
  PrP w (.bad K L) (.returned (.tuple #[.agg #[.slice none 0 0,.slice none 0 0,.slice none 0 0,.bool false],.agg #[.int .i64 6,.int .i64 0,.string ⟨#[]⟩,.slice none 0 0,.slice D n g]])) (st5 (st4 w5 X (.slice none 0 0) (.slice none 0 0) (.slice none 0 0) (.bool false)) Y (.int .i64 6) (.int .i64 0) (.string ⟨#[]⟩) (.slice none 0 0) (.slice D n g)):=by
 subst hn
 refine ⟨(st4_x hx _ _ _ _).frx (st5_frx _ _ _ _ _ _ _) (fun e=>hXY e.symm),st5_x (hy.frx (st4_frx _ _ _ _ _ _) hXY) _ _ _ _ _,⟨D,g,rfl,?_⟩,st5_fr (st4_fr (hf.trans h5) hX.1 _ _ _ _) hY.1 _ _ _ _ _⟩
 exact ((hm.frx (Nat.zero_le _) hX.2 (st4_frx _ _ _ _ _ _)).frx (Nat.zero_le _) hY.2 (st5_frx _ _ _ _ _ _ _)).lower (Nat.zero_le _) hf.size

theorem parse_big (s:ByteArray) (w:World) (hs:s.size≤140737488351232) (hb:65536<s.size):Calls Tryz.prog 7 #[.string s] w (PrP w (.bad Pt.kLim Pt.kSize)):=by
 have hs':(s.size:Int)≤140737488351232:=by omega
 have hb':(65536:Int)<(s.size:Int):=by omega
 have HP1:Hid (∀ W:World,Calls Tryz.prog 20 #[.string ⟨#[108,105,109,105,116]⟩,.string ⟨#[109,97,120,83,105,122,101,82,101,113,117,101,115,116]⟩] W fun e w'=>∃ (D:Option Addr) (g:Nat),e=.returned (.agg #[.int .i64 6,.int .i64 0,.string ⟨#[]⟩,.slice none 0 0,.slice D 3 g])∧MsB w' 0 W.heap.size (.slice D 3 g) (Pt.prM Pt.kLim Pt.kSize)∧Fr W w'):=Lib.hid (fun W=>eprob Pt.kLim Pt.kSize (by decide) (by decide) 3 rfl W)
 clear hs hb
 go_enter Tryz.func7,Tryz.ntmps7
 go_upto_region 1 with fail
 have hx0:Blk ((w.alloc (.cells #[.slice none 0 0,.slice none 0 0,.slice none 0 0,.bool false] 26)).alloc (.cells #[.int .i64 0,.int .i64 0,.string ⟨#[]⟩,.slice none 0 0,.slice none 0 0] 29)) w.heap.size #[.slice none 0 0,.slice none 0 0,.slice none 0 0,.bool false] 26:=(Blk.made w _ _).keep ((Fr.refl _).alloc _)
 have hy0:Blk ((w.alloc (.cells #[.slice none 0 0,.slice none 0 0,.slice none 0 0,.bool false] 26)).alloc (.cells #[.int .i64 0,.int .i64 0,.string ⟨#[]⟩,.slice none 0 0,.slice none 0 0] 29)) (w.heap.size+1) #[.int .i64 0,.int .i64 0,.string ⟨#[]⟩,.slice none 0 0,.slice none 0 0] 29:=boxz (Blk.made (w.alloc _) _ _)
 have hf0:Fr w ((w.alloc (.cells #[.slice none 0 0,.slice none 0 0,.slice none 0 0,.bool false] 26)).alloc (.cells #[.int .i64 0,.int .i64 0,.string ⟨#[]⟩,.slice none 0 0,.slice none 0 0] 29)):=((Fr.refl w).alloc _).alloc _
 have hXY:Hid (w.heap.size+1≠w.heap.size):=Lib.hid (by omega)
 generalize ((w.alloc (.cells #[.slice none 0 0,.slice none 0 0,.slice none 0 0,.bool false] 26)).alloc (.cells #[.int .i64 0,.int .i64 0,.string ⟨#[]⟩,.slice none 0 0,.slice none 0 0] 29))=W0 at hx0 hy0 hf0 ⊢
 generalize hY:w.heap.size+1=Y at hy0 hXY ⊢
 generalize hX:w.heap.size=X at hx0 hXY ⊢
 have HXw:Hid (w.heap.size≤X):=Lib.hid (Nat.le_of_eq hX)
 have HYw:Hid (w.heap.size≤Y):=Lib.hid (by omega)
 have nXY:¬ X=Y:=fun e=>hXY.out e.symm
 have nYX:¬ Y=X:=hXY.out
 clear hX hY
 have HX0:=Lib.hid hx0
 have HY0:=Lib.hid hy0
 have HF0:=Lib.hid hf0
 clear hx0 hy0 hf0
 go_wp2_with (go_at_call 20;refine (HP1.out _).mono ?_;rintro e w5 ⟨D,g,rfl,hm,hf⟩;obtain ⟨⟨r0,r1,r2,r3⟩,rf0,rf1,rf2,rf3⟩:=box4r (HX0.out.keep (hf));obtain ⟨⟨y0,y1,y2,y3,y4⟩,yf0,yf1,yf2,yf3,yf4⟩:=box5 (HY0.out.keep (hf));have HM5:=Lib.hid hm;have HF5:=Lib.hid hf;clear hm hf)
 obtain ⟨h1,h2,h3⟩:=prp_bad (K:=Pt.kLim) (L:=Pt.kSize) (n:=3) rfl hXY.out ⟨HXw.out,HX0.out.lt⟩ ⟨HYw.out,HY0.out.lt⟩ (HX0.out.keep HF5.out) (HY0.out.keep HF5.out) HF0.out HF5.out HM5.out
 exact bodyPost_ret (results_rv (by rfl) rfl rfl _ X Y (by rfl) (by rfl) _ _ _ _ _ _ _ _ _ h1 h2) rfl h3

theorem parse_no (s:ByteArray) (a c:Nat) (w:World) (hs:s.size≤65536) (hT:LowTabs w) (h:Rd.rdS s.data.toList=.bad a c):Calls Tryz.prog 7 #[.string s] w (PrP w (.bad Pt.kJson [])):=by
 have hs':(s.size:Int)≤65536:=by omega
 have e2:(((c:Nat):Int) != 0)=true:=by have:=(Rd.rdS_place h).2;rw [bne_iff_ne];omega
 have HT:=Lib.hid hT
 have H2:=Lib.hid h
 have HS:Hid (s.size≤9223372036854775807):=Lib.hid (by omega)
 have HP1:Hid (∀ W:World,Calls Tryz.prog 20 #[.string ⟨#[110,111,116,74,83,79,78]⟩,.string ⟨#[]⟩] W fun e w'=>∃ (D:Option Addr) (g:Nat),e=.returned (.agg #[.int .i64 6,.int .i64 0,.string ⟨#[]⟩,.slice none 0 0,.slice D 2 g])∧MsB w' 0 W.heap.size (.slice D 2 g) (Pt.prM Pt.kJson [])∧Fr W w'):=Lib.hid (fun W=>eprob Pt.kJson [] (by decide) (by decide) 2 rfl W)
 clear hs hT h
 go_enter Tryz.func7,Tryz.ntmps7
 go_upto_region 1 with fail
 have hx0:Blk ((w.alloc (.cells #[.slice none 0 0,.slice none 0 0,.slice none 0 0,.bool false] 26)).alloc (.cells #[.int .i64 0,.int .i64 0,.string ⟨#[]⟩,.slice none 0 0,.slice none 0 0] 29)) w.heap.size #[.slice none 0 0,.slice none 0 0,.slice none 0 0,.bool false] 26:=(Blk.made w _ _).keep ((Fr.refl _).alloc _)
 have hy0:Blk ((w.alloc (.cells #[.slice none 0 0,.slice none 0 0,.slice none 0 0,.bool false] 26)).alloc (.cells #[.int .i64 0,.int .i64 0,.string ⟨#[]⟩,.slice none 0 0,.slice none 0 0] 29)) (w.heap.size+1) #[.int .i64 0,.int .i64 0,.string ⟨#[]⟩,.slice none 0 0,.slice none 0 0] 29:=boxz (Blk.made (w.alloc _) _ _)
 have hf0:Fr w ((w.alloc (.cells #[.slice none 0 0,.slice none 0 0,.slice none 0 0,.bool false] 26)).alloc (.cells #[.int .i64 0,.int .i64 0,.string ⟨#[]⟩,.slice none 0 0,.slice none 0 0] 29)):=((Fr.refl w).alloc _).alloc _
 have hXY:Hid (w.heap.size+1≠w.heap.size):=Lib.hid (by omega)
 generalize ((w.alloc (.cells #[.slice none 0 0,.slice none 0 0,.slice none 0 0,.bool false] 26)).alloc (.cells #[.int .i64 0,.int .i64 0,.string ⟨#[]⟩,.slice none 0 0,.slice none 0 0] 29))=W0 at hx0 hy0 hf0 ⊢
 generalize hY:w.heap.size+1=Y at hy0 hXY ⊢
 generalize hX:w.heap.size=X at hx0 hXY ⊢
 have HXw:Hid (w.heap.size≤X):=Lib.hid (Nat.le_of_eq hX)
 have HYw:Hid (w.heap.size≤Y):=Lib.hid (by omega)
 have nXY:¬ X=Y:=fun e=>hXY.out e.symm
 have nYX:¬ Y=X:=hXY.out
 clear hX hY
 have HX0:=Lib.hid hx0
 have HY0:=Lib.hid hy0
 have HF0:=Lib.hid hf0
 clear hx0 hy0 hf0
 go_wp2_with (first
  | (go_at_call 20;have hm4:=HF4.out;refine (HP1.out _).mono ?_;rintro e w5 ⟨D,g,rfl,hm,hf⟩;obtain ⟨⟨r0,r1,r2,r3⟩,rf0,rf1,rf2,rf3⟩:=box4r (HX0.out.keep (HF4.out.trans hf));obtain ⟨⟨y0,y1,y2,y3,y4⟩,yf0,yf1,yf2,yf3,yf4⟩:=box5 (HY0.out.keep (HF4.out.trans hf));have HM5:=Lib.hid hm;have HF5:=Lib.hid hf;clear hm hf)
  | (go_at_call 23;refine (rvalue_b s a c _ HS.out (HT.out.keep HF0.out) H2.out).mono ?_;rintro e w1 ⟨rfl,hf⟩;have HF4:Hid (Fr W0 (w1.alloc (.cells #[.int .i64 0,.int .i64 0,.string ⟨#[]⟩,.slice none 0 0,.slice none 0 0] 29))):=Lib.hid (hf.alloc _);clear hf))
 obtain ⟨h1,h2,h3⟩:=prp_bad (K:=Pt.kJson) (L:=[]) (n:=2) rfl hXY.out ⟨HXw.out,Nat.lt_of_lt_of_le HX0.out.lt HF4.out.size⟩ ⟨HYw.out,Nat.lt_of_lt_of_le HY0.out.lt HF4.out.size⟩ (HX0.out.keep (HF4.out.trans HF5.out)) (HY0.out.keep (HF4.out.trans HF5.out)) (HF0.out.trans HF4.out) HF5.out HM5.out
 exact bodyPost_ret (results_rv (by rfl) rfl rfl _ X Y (by rfl) (by rfl) _ _ _ _ _ _ _ _ _ h1 h2) rfl h3

def PtS (W:World) (K:Nat) (S:Nat→Prop) (R:Nat) (v:JV) (i:Nat) (us cs crs:Value) (hb:Bool):Prop:=
 (1≤i→v.kd=6)∧(i<2→us=.slice none 0 0)∧(2≤i→Pt.okU v=true∧Ssl W K us ((Pt.getZ v Pt.nUsing).ls.map JV.tx))∧(i<3→cs=.slice none 0 0)∧(3≤i→Pt.okC v=true∧CsB W S K cs ((Pt.getZ v Pt.nCalls).ls.map Pt.callC))∧(i<4→crs=.slice none 0 0∧hb=false)∧(4≤i→Pt.okM v=true∧MsB W R K crs (Pt.getZ v Pt.nIds).ms∧hb=(Pt.get v Pt.nIds).isSome)
theorem PtS.frx {W W':World} {K:Nat} {S:Nat→Prop} {R:Nat} {v:JV} {i:Nat} {us cs crs:Value} {hb:Bool} (h:PtS W K S R v i us cs crs hb) (hS:∀ b,S b→b<R) (hR:R<K) (hf:FrX R W W'):PtS W' K S R v i us cs crs hb:=
 ⟨h.1,h.2.1,fun k=>⟨(h.2.2.1 k).1,Row.frx (h.2.2.1 k).2 hR hf⟩,h.2.2.2.1,fun k=>⟨(h.2.2.2.2.1 k).1,(h.2.2.2.2.1 k).2.frx (fun b hb=>Nat.ne_of_lt (hS b hb)) hR hf⟩,h.2.2.2.2.2.1,fun k=>⟨(h.2.2.2.2.2.2 k).1,(h.2.2.2.2.2.2 k).2.1.frx (Nat.le_refl _) hR hf,(h.2.2.2.2.2.2 k).2.2⟩⟩
theorem Pt.fine_no {v:JV} (h:(v.kd == 6)=false∨Pt.okU v=false∨Pt.okC v=false∨Pt.okM v=false):Pt.parseV v=.bad Pt.kReq []:=by
 unfold Pt.parseV
 rw [if_pos]
 unfold Pt.fine
 rcases h with h | h | h | h <;> rw [h] <;> simp
theorem Pt.fine_is {v:JV} (h1:v.kd=6) (h2:Pt.okU v=true) (h3:Pt.okC v=true) (h4:Pt.okM v=true):Pt.parseV v=if Pt.odd ((Pt.getZ v Pt.nUsing).ls.map JV.tx)=true then .bad Pt.kCap [] else if 16<(Pt.getZ v Pt.nCalls).ls.length then .bad Pt.kLim Pt.kCalls else .ok (Pt.reqOf v):=by
 unfold Pt.parseV
 rw [if_neg]
 unfold Pt.fine
 rw [h1,h2,h3,h4];decide
theorem Pt.leaf {v:JV} (h:JV.okB v=true) (hk:v.kd=4):v.ls=[]∧v.ms=[]:=by
 have h1:=((JV.ok_iff v).1 h).1
 rcases JV.right_form h1 with rfl | ⟨n,_,rfl⟩ | ⟨n,_,_,rfl⟩ | ⟨s,_,rfl⟩ | ⟨l,rfl⟩ | ⟨m,rfl⟩
 ·simp [JV.nullV,JV.kd] at hk
 ·simp [JV.boolV,JV.kd] at hk
 ·simp [JV.intV,JV.kd] at hk
 ·exact ⟨rfl,rfl⟩
 ·simp [JV.listV,JV.kd] at hk
 ·simp [JV.mapV,JV.kd] at hk
theorem Pt.leafM {v:JV} (h:JV.okB v=true) (hm:Pt.okM v=true):∀ p∈(Pt.getZ v Pt.nIds).ms,p.2.ls=[]∧p.2.ms=[]:=by
 intro p hp
 cases hg:Pt.get v Pt.nIds with
 | none=>rw [Pt.getZ_no hg] at hp;simp [JV.zeroV,JV.ms] at hp
 | some x=>
  rw [Pt.getZ_of hg] at hp
  unfold Pt.okM at hm
  rw [hg] at hm
  simp only [Pt.okM1,Bool.and_eq_true,Bool.not_eq_true'] at hm
  have hb:=List.any_eq_false.1 hm.2.2 p hp
  simp only [Pt.badM,Bool.or_eq_true,not_or,bne_iff_ne,ne_eq,Decidable.not_not] at hb
  have hx:JV.okB x=true:=by
   unfold Pt.get at hg
   split at hg
   ·have:=Pt.getM_mem hg
    exact ((JV.ok_iff v).1 h).2.2.2 _ this
   ·cases hg
  exact Pt.leaf (((JV.ok_iff x).1 hx).2.2.2 p hp) hb.1

/- Chapter 25: Parse, of a text that can be read. -/

theorem parse_v (s:ByteArray) (v:JV) (l:List Scn.Tok) (q:Nat) (w:World) (hs:s.size≤65536) (hT:LowTabs w) (h:Rd.rdS s.data.toList=.ok v l q) (r:Pt.Pa) (hr:Pt.parseV v=r):Calls Tryz.prog 7 #[.string s] w (PrP w r):=by
 have hs':(s.size:Int)≤65536:=by omega
 obtain ⟨hok,_,hq,hq2,_,_,_⟩:=Rd.rdS_right h
 have hnv:Rd.nv v≤1048576:=by omega
 have HNV:=Lib.hid hnv
 have HOK:=Lib.hid hok
 have HRR:=Lib.hid hr
 have HT:=Lib.hid hT
 have H2:=Lib.hid h
 have HS:Hid (s.size≤9223372036854775807):=Lib.hid (by omega)
 have hmf:∀ (fn:Fn) (first cap:Array Value) (w:World),(Instr.makeFunc fn first cap).run Tryz.prog w=.ok (.func fn first cap) w:=fun _ _ _ _=>rfl
 have HP1:Hid (∀ W:World,Calls Tryz.prog 20 #[.string ⟨#[110,111,116,82,101,113,117,101,115,116]⟩,.string ⟨#[]⟩] W fun e w'=>∃ (D:Option Addr) (g:Nat),e=.returned (.agg #[.int .i64 6,.int .i64 0,.string ⟨#[]⟩,.slice none 0 0,.slice D 2 g])∧MsB w' 0 W.heap.size (.slice D 2 g) (Pt.prM Pt.kReq [])∧Fr W w'):=Lib.hid (fun W=>eprob Pt.kReq [] (by decide) (by decide) 2 rfl W)
 have HP2:Hid (∀ W:World,Calls Tryz.prog 20 #[.string ⟨#[117,110,107,110,111,119,110,67,97,112,97,98,105,108,105,116,121]⟩,.string ⟨#[]⟩] W fun e w'=>∃ (D:Option Addr) (g:Nat),e=.returned (.agg #[.int .i64 6,.int .i64 0,.string ⟨#[]⟩,.slice none 0 0,.slice D 2 g])∧MsB w' 0 W.heap.size (.slice D 2 g) (Pt.prM Pt.kCap [])∧Fr W w'):=Lib.hid (fun W=>eprob Pt.kCap [] (by decide) (by decide) 2 rfl W)
 have HP3:Hid (∀ W:World,Calls Tryz.prog 20 #[.string ⟨#[108,105,109,105,116]⟩,.string ⟨#[109,97,120,67,97,108,108,115,73,110,82,101,113,117,101,115,116]⟩] W fun e w'=>∃ (D:Option Addr) (g:Nat),e=.returned (.agg #[.int .i64 6,.int .i64 0,.string ⟨#[]⟩,.slice none 0 0,.slice D 3 g])∧MsB w' 0 W.heap.size (.slice D 3 g) (Pt.prM Pt.kLim Pt.kCalls)∧Fr W w'):=Lib.hid (fun W=>eprob Pt.kLim Pt.kCalls (by decide) (by decide) 3 rfl W)
 clear hs hT h hr hok hnv hq hq2
 go_enter Tryz.func7,Tryz.ntmps7
 go_upto_region 1 with fail
 have hx0:Blk ((w.alloc (.cells #[.slice none 0 0,.slice none 0 0,.slice none 0 0,.bool false] 26)).alloc (.cells #[.int .i64 0,.int .i64 0,.string ⟨#[]⟩,.slice none 0 0,.slice none 0 0] 29)) w.heap.size #[.slice none 0 0,.slice none 0 0,.slice none 0 0,.bool false] 26:=(Blk.made w _ _).keep ((Fr.refl _).alloc _)
 have hy0:Blk ((w.alloc (.cells #[.slice none 0 0,.slice none 0 0,.slice none 0 0,.bool false] 26)).alloc (.cells #[.int .i64 0,.int .i64 0,.string ⟨#[]⟩,.slice none 0 0,.slice none 0 0] 29)) (w.heap.size+1) #[.int .i64 0,.int .i64 0,.string ⟨#[]⟩,.slice none 0 0,.slice none 0 0] 29:=boxz (Blk.made (w.alloc _) _ _)
 have hf0:Fr w ((w.alloc (.cells #[.slice none 0 0,.slice none 0 0,.slice none 0 0,.bool false] 26)).alloc (.cells #[.int .i64 0,.int .i64 0,.string ⟨#[]⟩,.slice none 0 0,.slice none 0 0] 29)):=((Fr.refl w).alloc _).alloc _
 have hXY:Hid (w.heap.size+1≠w.heap.size):=Lib.hid (by omega)
 generalize ((w.alloc (.cells #[.slice none 0 0,.slice none 0 0,.slice none 0 0,.bool false] 26)).alloc (.cells #[.int .i64 0,.int .i64 0,.string ⟨#[]⟩,.slice none 0 0,.slice none 0 0] 29))=W0 at hx0 hy0 hf0 ⊢
 generalize hY:w.heap.size+1=Y at hy0 hXY ⊢
 generalize hX:w.heap.size=X at hx0 hXY ⊢
 have HXw:Hid (w.heap.size≤X):=Lib.hid (Nat.le_of_eq hX)
 have HYw:Hid (w.heap.size≤Y):=Lib.hid (by omega)
 have nXY:¬ X=Y:=fun e=>hXY.out e.symm
 have nYX:¬ Y=X:=hXY.out
 clear hX hY
 have HX0:=Lib.hid hx0
 have HY0:=Lib.hid hy0
 have HF0:=Lib.hid hf0
 clear hx0 hy0 hf0
 go_upto_region 7 with (go_at_call 23;refine (rvalue_v s v l q v.kd v.nm v.tx v.ls.length v.ms.length ⟨rfl,rfl,rfl,rfl,rfl⟩ _ HS.out (HT.out.keep HF0.out) H2.out).mono ?_;rintro e w1 ⟨B,d,B',d',rfl,hin,hf⟩;have HIN:=Lib.hid hin;have HF1:=Lib.hid hf;clear hin hf)
 have hv6:Blk ((w1.alloc (.cells #[.int .i64 v.kd,.int .i64 v.nm,.string ⟨v.tx.toArray⟩,.slice B v.ls.length d,.slice B' v.ms.length d'] 29)).alloc (.cells #[.slice none 0 0,.slice none 0 0,.slice none 0 0,.bool false] 26)) w1.heap.size #[.int .i64 v.kd,.int .i64 v.nm,.string ⟨v.tx.toArray⟩,.slice B v.ls.length d,.slice B' v.ms.length d'] 29:=(Blk.made w1 _ _).keep ((Fr.refl _).alloc _)
 have hr6:Blk ((w1.alloc (.cells #[.int .i64 v.kd,.int .i64 v.nm,.string ⟨v.tx.toArray⟩,.slice B v.ls.length d,.slice B' v.ms.length d'] 29)).alloc (.cells #[.slice none 0 0,.slice none 0 0,.slice none 0 0,.bool false] 26)) (w1.heap.size+1) #[.slice none 0 0,.slice none 0 0,.slice none 0 0,.bool false] 26:=boxz (Blk.made (w1.alloc _) _ _)
 have hf6:Fr w1 ((w1.alloc (.cells #[.int .i64 v.kd,.int .i64 v.nm,.string ⟨v.tx.toArray⟩,.slice B v.ls.length d,.slice B' v.ms.length d'] 29)).alloc (.cells #[.slice none 0 0,.slice none 0 0,.slice none 0 0,.bool false] 26)):=((Fr.refl w1).alloc _).alloc _
 have hin6:=HIN.out.keepS (fun b hb=>hb.2) hf6
 have hfw:Fr W0 ((w1.alloc (.cells #[.int .i64 v.kd,.int .i64 v.nm,.string ⟨v.tx.toArray⟩,.slice B v.ls.length d,.slice B' v.ms.length d'] 29)).alloc (.cells #[.slice none 0 0,.slice none 0 0,.slice none 0 0,.bool false] 26)):=HF1.out.trans hf6
 have hW0:W0.heap.size≤w1.heap.size:=HF1.out.size
 generalize ((w1.alloc (.cells #[.int .i64 v.kd,.int .i64 v.nm,.string ⟨v.tx.toArray⟩,.slice B v.ls.length d,.slice B' v.ms.length d'] 29)).alloc (.cells #[.slice none 0 0,.slice none 0 0,.slice none 0 0,.bool false] 26))=W6 at hv6 hr6 hin6 hfw ⊢
 clear hf6
 generalize hRe:w1.heap.size+1=R at hr6 ⊢
 generalize w1.heap.size=X4 at hRe hv6 hin6 hW0 ⊢
 have HSv:Hid (∀ b,Be W0.heap.size X4 b→b<R):=Lib.hid (fun b hb=>by have:=hb.2;omega)
 have hvR:X4≠R:=by omega
 go_upto_region 8 with fail
 have hr7:=hr6.keep ((Fr.refl W6).alloc (.cells #[.func (.func 24) #[] #[],.func (.func 25) #[.pointer (some ⟨R,0,none⟩)] #[],.func (.func 26) #[.pointer (some ⟨R,0,none⟩)] #[],.func (.func 27) #[.pointer (some ⟨R,0,none⟩)] #[]] 58))
 have hv7:=hv6.keep ((Fr.refl W6).alloc (.cells #[.func (.func 24) #[] #[],.func (.func 25) #[.pointer (some ⟨R,0,none⟩)] #[],.func (.func 26) #[.pointer (some ⟨R,0,none⟩)] #[],.func (.func 27) #[.pointer (some ⟨R,0,none⟩)] #[]] 58))
 have hl7:=Blk.made W6 #[.func (.func 24) #[] #[],.func (.func 25) #[.pointer (some ⟨R,0,none⟩)] #[],.func (.func 26) #[.pointer (some ⟨R,0,none⟩)] #[],.func (.func 27) #[.pointer (some ⟨R,0,none⟩)] #[]] 58
 have hin7:=hin6.keepS (fun b hb=>Nat.lt_trans (HSv.out b hb) hr6.lt) ((Fr.refl W6).alloc (.cells #[.func (.func 24) #[] #[],.func (.func 25) #[.pointer (some ⟨R,0,none⟩)] #[],.func (.func 26) #[.pointer (some ⟨R,0,none⟩)] #[],.func (.func 27) #[.pointer (some ⟨R,0,none⟩)] #[]] 58))
 have hfw7:=hfw.alloc (.cells #[.func (.func 24) #[] #[],.func (.func 25) #[.pointer (some ⟨R,0,none⟩)] #[],.func (.func 26) #[.pointer (some ⟨R,0,none⟩)] #[],.func (.func 27) #[.pointer (some ⟨R,0,none⟩)] #[]] 58)
 have hlR:W6.heap.size≠R:=fun e=>by have:=hr6.lt;omega
 generalize (W6.alloc (.cells #[.func (.func 24) #[] #[],.func (.func 25) #[.pointer (some ⟨R,0,none⟩)] #[],.func (.func 26) #[.pointer (some ⟨R,0,none⟩)] #[],.func (.func 27) #[.pointer (some ⟨R,0,none⟩)] #[]] 58))=W7 at hr7 hv7 hl7 hin7 hfw7 ⊢
 generalize W6.heap.size=X7 at hl7 hlR ⊢
 have HX7:=Lib.hid (HX0.out.keep hfw7)
 have HY7:=Lib.hid (HY0.out.keep hfw7)
 have HF7:=Lib.hid (HF0.out.trans hfw7)
 have HXR:Hid (X≠R∧Y≠R):=Lib.hid ⟨fun e=>by have:=HX0.out.lt;omega,fun e=>by have:=HY0.out.lt;omega⟩
 have HwR:Hid (w.heap.size≤R∧R≤W7.heap.size):=Lib.hid ⟨by have:=HF0.out.size;omega,Nat.le_of_lt hr7.lt⟩
 have HBe:Hid (∀ b,Be W0.heap.size X4 b→Be w.heap.size W7.heap.size b):=Lib.hid (fun b hb=>⟨Nat.le_trans HF0.out.size hb.1,Nat.lt_of_lt_of_le (HSv.out b hb) HwR.out.2⟩)
 have HR7:=Lib.hid hr7
 have HV7:=Lib.hid hv7
 have HL7:=Lib.hid hl7
 have HI7:=Lib.hid hin7
 have HvR:=Lib.hid hvR
 have HlR:=Lib.hid hlR
 have HA:=Lib.hid (show X4+1=R∧W0.heap.size≤X4 from ⟨hRe,hW0⟩)
 clear hv6 hr6 hin6 hfw hW0 hRe hvR hlR hr7 hv7 hl7 hin7 hfw7
 go_loopw [35] (fun j wr=>∃ (i:Nat) (us cs crs:Value) (hb:Bool),i≤4∧j=.int .i64 i∧Hid (FrX R W7 wr)∧Hid (Blk wr R #[us,cs,crs,.bool hb] 26)∧Hid (PtS wr W7.heap.size (Be W0.heap.size X4) R v i us cs crs hb)) (fun j _=>4 - (intOf j).toNat)
 case atStart=>exact ⟨0,_,_,_,_,by omega,rfl,Lib.hid (FrX.refl R W7),HR7,Lib.hid ⟨fun h=>absurd h (by omega),fun _=>rfl,fun h=>absurd h (by omega),fun _=>rfl,fun h=>absurd h (by omega),fun _=>⟨rfl,rfl⟩,fun h=>absurd h (by omega)⟩⟩
 case round=>
  obtain ⟨i,us,cs,crs,hb,hi,rfl,hX,hRr,hP⟩:=hrel
  obtain ⟨⟨b0,b1,b2,b3,b4⟩,_⟩:=box5 (HV7.out.frx hX.out HvR.out)
  obtain ⟨⟨f0,f1,f2,f3⟩,_⟩:=box4r (HL7.out.frx hX.out HlR.out)
  have hcase:i=0∨i=1∨i=2∨i=3∨i=4:=by omega
  rcases hcase with rfl | rfl | rfl | rfl | rfl
  ·obtain ⟨p1,p2,p3,p4,p5,p6,p7⟩:=hP.out
   obtain ⟨bu,hbu⟩:∃ b,decide (v.kd=6)=b:=⟨_,rfl⟩
   have HC:Hid (∀ W,Calls Tryz.prog 24 #[.agg #[.int .i64 v.kd,.int .i64 v.nm,.string ⟨v.tx.toArray⟩,.slice B v.ls.length d,.slice B' v.ms.length d']] W fun e w'=>e=.returned (.bool bu)∧Fr W w'):=Lib.hid (fun W=>ismap_is v B d B' d' W bu hbu)
   have HBU:=Lib.hid hbu
   have HPS:=hP
   clear hbu p1 p2 p3 p4 p5 p6 p7
   cases bu
   ·have HRB:Hid (r=.bad Pt.kReq []):=Lib.hid (by rw [← HRR.out];exact Pt.fine_no (.inl (by rw [beq_eq_false_iff_ne];exact of_decide_eq_false HBU.out)))
    go_wp2_with (first
     | (go_at_call 20;have hm9:=HX9.out;refine (HP1.out _).mono ?_;rintro e w5 ⟨D,g,rfl,hm,hf⟩;obtain ⟨⟨r0,r1,r2,r3⟩,rf0,rf1,rf2,rf3⟩:=box4r (HX9.out.keep hf);obtain ⟨⟨y0,y1,y2,y3,y4⟩,yf0,yf1,yf2,yf3,yf4⟩:=box5 (HY9.out.keep hf);have HM5:=Lib.hid hm;have HF5:=Lib.hid hf;clear hm hf)
     | (go_at_call 24;refine (HC.out _).mono ?_;rintro e w2 ⟨rfl,hf⟩;have HX9:=Lib.hid (HX7.out.frx (hX.out.fr hf) HXR.out.1);have HY9:=Lib.hid (HY7.out.frx (hX.out.fr hf) HXR.out.2);have HW9:=Lib.hid (Fr.thenX HF7.out HwR.out.1 HwR.out.2 (hX.out.fr hf));clear hf))
    obtain ⟨h1,h2,h3⟩:=prp_bad (K:=Pt.kReq) (L:=[]) (n:=2) rfl hXY.out ⟨HXw.out,HX9.out.lt⟩ ⟨HYw.out,HY9.out.lt⟩ (HX9.out.keep HF5.out) (HY9.out.keep HF5.out) HW9.out HF5.out HM5.out
    rw [HRB.out]
    exact bodyPost_ret (results_rv (by rfl) rfl rfl _ X Y (by rfl) (by rfl) _ _ _ _ _ _ _ _ _ h1 h2) rfl h3
   ·go_wp2_with (go_at_call 24;refine (HC.out _).mono ?_;rintro e w2 ⟨rfl,hf⟩;have HF2:=Lib.hid hf;clear hf)
    exact ⟨⟨1,us,cs,crs,hb,by omega,by go_num,Lib.hid (hX.out.fr HF2.out),Lib.hid (hRr.out.keep HF2.out),Lib.hid (by
     obtain ⟨p1,p2,p3,p4,p5,p6,p7⟩:=HPS.out
     exact ⟨fun _=>of_decide_eq_true HBU.out,fun _=>p2 (by omega),fun h=>absurd h (by omega),fun _=>p4 (by omega),fun h=>absurd h (by omega),fun _=>p6 (by omega),fun h=>absurd h (by omega)⟩)⟩,by simp [intOf]⟩
  ·obtain ⟨p1,p2,p3,p4,p5,p6,p7⟩:=hP.out
   obtain rfl:us=.slice none 0 0:=p2 (by omega)
   obtain ⟨bu,hbu⟩:∃ b,Pt.okU v=b:=⟨_,rfl⟩
   have HC:Hid (∀ W,Fr wr W→Calls Tryz.prog 25 #[.pointer (some ⟨R,0,none⟩),.agg #[.int .i64 v.kd,.int .i64 v.nm,.string ⟨v.tx.toArray⟩,.slice B v.ls.length d,.slice B' v.ms.length d']] W fun e w'=>e=.returned (.bool bu)∧FrX R W w' ∧ ∃ us acc,Blk w' R #[us,cs,crs,.bool hb] 26∧Ssl w' W.heap.size us acc∧(bu=true→acc=(Pt.getZ v Pt.nUsing).ls.map JV.tx)):=Lib.hid (fun W hW=>using_is v B d B' d' R cs crs (.bool hb) W (((HI7.out.map HSv.out (fun _ _ _=>rfl)).frx HwR.out.2 hX.out).keep (Nat.le_of_lt hRr.out.lt) hW) (hRr.out.keep hW) HNV.out _ rfl bu hbu)
   have HBU:=Lib.hid hbu
   have HPS:=Lib.hid hP.out
   clear hbu p1 p2 p3 p4 p5 p6 p7 hP
   cases bu
   ·have HRB:Hid (r=.bad Pt.kReq []):=Lib.hid (by rw [← HRR.out];exact Pt.fine_no (.inr (.inl HBU.out)))
    go_wp2_with (first
     | (go_at_call 20;have hm9:=HX9.out;refine (HP1.out _).mono ?_;rintro e w5 ⟨D,g,rfl,hm,hf⟩;obtain ⟨⟨r0,r1,r2,r3⟩,rf0,rf1,rf2,rf3⟩:=box4r (HX9.out.keep hf);obtain ⟨⟨y0,y1,y2,y3,y4⟩,yf0,yf1,yf2,yf3,yf4⟩:=box5 (HY9.out.keep hf);have HM5:=Lib.hid hm;have HF5:=Lib.hid hf;clear hm hf)
     | (go_at_call 25;refine (HC.out _ (Fr.refl _)).mono ?_;rintro e w2 ⟨rfl,hf,_⟩;have HX9:=Lib.hid (HX7.out.frx (hX.out.trans hf) HXR.out.1);have HY9:=Lib.hid (HY7.out.frx (hX.out.trans hf) HXR.out.2);have HW9:=Lib.hid (Fr.thenX HF7.out HwR.out.1 HwR.out.2 (hX.out.trans hf));clear hf))
    obtain ⟨h1,h2,h3⟩:=prp_bad (K:=Pt.kReq) (L:=[]) (n:=2) rfl hXY.out ⟨HXw.out,HX9.out.lt⟩ ⟨HYw.out,HY9.out.lt⟩ (HX9.out.keep HF5.out) (HY9.out.keep HF5.out) HW9.out HF5.out HM5.out
    rw [HRB.out]
    exact bodyPost_ret (results_rv (by rfl) rfl rfl _ X Y (by rfl) (by rfl) _ _ _ _ _ _ _ _ _ h1 h2) rfl h3
   ·go_wp2_with (go_at_call 25;refine (HC.out _ (Fr.refl _)).mono ?_;rintro e w2 ⟨rfl,hf,us2,acc2,hr2,hs2,ha2⟩;have HF2:=Lib.hid hf;have HR2:=Lib.hid hr2;have HS2:=Lib.hid hs2;have HA2:=Lib.hid ha2;clear hf hr2 hs2 ha2)
    exact ⟨⟨2,us2,cs,crs,hb,by omega,by go_num,Lib.hid (hX.out.trans HF2.out),HR2,Lib.hid (by
     obtain ⟨p1,p2,p3,p4,p5,p6,p7⟩:=HPS.out
     have hs:=Row.lower HS2.out hX.out.size
     exact ⟨fun _=>p1 (by omega),fun h=>absurd h (by omega),fun _=>⟨HBU.out,by rw [← HA2.out trivial];exact hs⟩,fun _=>p4 (by omega),fun h=>absurd h (by omega),fun _=>p6 (by omega),fun h=>absurd h (by omega)⟩)⟩,by simp [intOf]⟩
  ·obtain ⟨p1,p2,p3,p4,p5,p6,p7⟩:=hP.out
   obtain rfl:cs=.slice none 0 0:=p4 (by omega)
   obtain ⟨bu,hbu⟩:∃ b,Pt.okC v=b:=⟨_,rfl⟩
   have HC:Hid (∀ W,Fr wr W→Calls Tryz.prog 26 #[.pointer (some ⟨R,0,none⟩),.agg #[.int .i64 v.kd,.int .i64 v.nm,.string ⟨v.tx.toArray⟩,.slice B v.ls.length d,.slice B' v.ms.length d']] W fun e w'=>e=.returned (.bool bu)∧FrX R W w' ∧ ∃ cs acc,Blk w' R #[us,cs,crs,.bool hb] 26∧CsB w' (Be W0.heap.size X4) W.heap.size cs acc∧(bu=true→acc=(Pt.getZ v Pt.nCalls).ls.map Pt.callC)):=Lib.hid (fun W hW=>calls_is v B d B' d' R us crs (.bool hb) W (Be W0.heap.size X4) HSv.out ((HI7.out.frxS (fun b hb=>⟨Nat.lt_of_lt_of_le (HSv.out b hb) HwR.out.2,Nat.ne_of_lt (HSv.out b hb)⟩) hX.out).keepS (fun b hb=>Nat.lt_trans (HSv.out b hb) hRr.out.lt) hW) (hRr.out.keep hW) HNV.out _ rfl bu hbu)
   have HBU:=Lib.hid hbu
   have HPS:=Lib.hid hP.out
   clear hbu p1 p2 p3 p4 p5 p6 p7 hP
   cases bu
   ·have HRB:Hid (r=.bad Pt.kReq []):=Lib.hid (by rw [← HRR.out];exact Pt.fine_no (.inr (.inr (.inl HBU.out))))
    go_wp2_with (first
     | (go_at_call 20;have hm9:=HX9.out;refine (HP1.out _).mono ?_;rintro e w5 ⟨D,g,rfl,hm,hf⟩;obtain ⟨⟨r0,r1,r2,r3⟩,rf0,rf1,rf2,rf3⟩:=box4r (HX9.out.keep hf);obtain ⟨⟨y0,y1,y2,y3,y4⟩,yf0,yf1,yf2,yf3,yf4⟩:=box5 (HY9.out.keep hf);have HM5:=Lib.hid hm;have HF5:=Lib.hid hf;clear hm hf)
     | (go_at_call 26;refine (HC.out _ (Fr.refl _)).mono ?_;rintro e w2 ⟨rfl,hf,_⟩;have HX9:=Lib.hid (HX7.out.frx (hX.out.trans hf) HXR.out.1);have HY9:=Lib.hid (HY7.out.frx (hX.out.trans hf) HXR.out.2);have HW9:=Lib.hid (Fr.thenX HF7.out HwR.out.1 HwR.out.2 (hX.out.trans hf));clear hf))
    obtain ⟨h1,h2,h3⟩:=prp_bad (K:=Pt.kReq) (L:=[]) (n:=2) rfl hXY.out ⟨HXw.out,HX9.out.lt⟩ ⟨HYw.out,HY9.out.lt⟩ (HX9.out.keep HF5.out) (HY9.out.keep HF5.out) HW9.out HF5.out HM5.out
    rw [HRB.out]
    exact bodyPost_ret (results_rv (by rfl) rfl rfl _ X Y (by rfl) (by rfl) _ _ _ _ _ _ _ _ _ h1 h2) rfl h3
   ·go_wp2_with (go_at_call 26;refine (HC.out _ (Fr.refl _)).mono ?_;rintro e w2 ⟨rfl,hf,cs2,acc2,hr2,hs2,ha2⟩;have HF2:=Lib.hid hf;have HR2:=Lib.hid hr2;have HS2:=Lib.hid hs2;have HA2:=Lib.hid ha2;clear hf hr2 hs2 ha2)
    exact ⟨⟨3,us,cs2,crs,hb,by omega,by go_num,Lib.hid (hX.out.trans HF2.out),HR2,Lib.hid (by
     have hps:=HPS.out.frx HSv.out HR7.out.lt HF2.out
     obtain ⟨p1,p2,p3,p4,p5,p6,p7⟩:=hps
     have hs:=HS2.out.lower (fun b hb=>Nat.lt_of_lt_of_le (HSv.out b hb) HwR.out.2) hX.out.size
     exact ⟨fun _=>p1 (by omega),fun h=>absurd h (by omega),fun _=>p3 (by omega),fun h=>absurd h (by omega),fun _=>⟨HBU.out,by rw [← HA2.out trivial];exact hs⟩,fun _=>p6 (by omega),fun h=>absurd h (by omega)⟩)⟩,by simp [intOf]⟩
  ·obtain ⟨p1,p2,p3,p4,p5,p6,p7⟩:=hP.out
   obtain ⟨rfl,rfl⟩:=p6 (by omega)
   obtain ⟨bu,hbu⟩:∃ b,Pt.okM v=b:=⟨_,rfl⟩
   have HC:Hid (∀ W,Fr wr W→Calls Tryz.prog 27 #[.pointer (some ⟨R,0,none⟩),.agg #[.int .i64 v.kd,.int .i64 v.nm,.string ⟨v.tx.toArray⟩,.slice B v.ls.length d,.slice B' v.ms.length d']] W fun e w'=>e=.returned (.bool bu)∧FrX R W w' ∧ ∃ crs,Blk w' R #[us,cs,crs,.bool (Pt.get v Pt.nIds).isSome] 26∧MsB w' R W.heap.size crs (Pt.getZ v Pt.nIds).ms):=Lib.hid (fun W hW=>created_is v B d B' d' R us cs W (Be W0.heap.size X4) HSv.out ((HI7.out.frxS (fun b hb=>⟨Nat.lt_of_lt_of_le (HSv.out b hb) HwR.out.2,Nat.ne_of_lt (HSv.out b hb)⟩) hX.out).keepS (fun b hb=>Nat.lt_trans (HSv.out b hb) hRr.out.lt) hW) (hRr.out.keep hW) HNV.out bu hbu)
   have HBU:=Lib.hid hbu
   have HPS:=Lib.hid hP.out
   clear hbu p1 p2 p3 p4 p5 p6 p7 hP
   cases bu
   ·have HRB:Hid (r=.bad Pt.kReq []):=Lib.hid (by rw [← HRR.out];exact Pt.fine_no (.inr (.inr (.inr HBU.out))))
    go_wp2_with (first
     | (go_at_call 20;have hm9:=HX9.out;refine (HP1.out _).mono ?_;rintro e w5 ⟨D,g,rfl,hm,hf⟩;obtain ⟨⟨r0,r1,r2,r3⟩,rf0,rf1,rf2,rf3⟩:=box4r (HX9.out.keep hf);obtain ⟨⟨y0,y1,y2,y3,y4⟩,yf0,yf1,yf2,yf3,yf4⟩:=box5 (HY9.out.keep hf);have HM5:=Lib.hid hm;have HF5:=Lib.hid hf;clear hm hf)
     | (go_at_call 27;refine (HC.out _ (Fr.refl _)).mono ?_;rintro e w2 ⟨rfl,hf,_⟩;have HX9:=Lib.hid (HX7.out.frx (hX.out.trans hf) HXR.out.1);have HY9:=Lib.hid (HY7.out.frx (hX.out.trans hf) HXR.out.2);have HW9:=Lib.hid (Fr.thenX HF7.out HwR.out.1 HwR.out.2 (hX.out.trans hf));clear hf))
    obtain ⟨h1,h2,h3⟩:=prp_bad (K:=Pt.kReq) (L:=[]) (n:=2) rfl hXY.out ⟨HXw.out,HX9.out.lt⟩ ⟨HYw.out,HY9.out.lt⟩ (HX9.out.keep HF5.out) (HY9.out.keep HF5.out) HW9.out HF5.out HM5.out
    rw [HRB.out]
    exact bodyPost_ret (results_rv (by rfl) rfl rfl _ X Y (by rfl) (by rfl) _ _ _ _ _ _ _ _ _ h1 h2) rfl h3
   ·go_wp2_with (go_at_call 27;refine (HC.out _ (Fr.refl _)).mono ?_;rintro e w2 ⟨rfl,hf,crs2,hr2,hs2⟩;have HF2:=Lib.hid hf;have HR2:=Lib.hid hr2;have HS2:=Lib.hid hs2;clear hf hr2 hs2)
    exact ⟨⟨4,us,cs,crs2,_,by omega,by go_num,Lib.hid (hX.out.trans HF2.out),HR2,Lib.hid (by
     have hps:=HPS.out.frx HSv.out HR7.out.lt HF2.out
     obtain ⟨p1,p2,p3,p4,p5,p6,p7⟩:=hps
     have hs:=HS2.out.lower HwR.out.2 hX.out.size
     exact ⟨fun _=>p1 (by omega),fun h=>absurd h (by omega),fun _=>p3 (by omega),fun h=>absurd h (by omega),fun _=>p5 (by omega),fun h=>absurd h (by omega),fun _=>⟨HBU.out,hs,rfl⟩⟩)⟩,by simp [intOf]⟩
  ·obtain ⟨p1,p2,p3,p4,p5,p6,p7⟩:=hP.out
   have h6:=p1 (by omega)
   obtain ⟨hu,hss⟩:=p3 (by omega)
   obtain ⟨hc,hcs⟩:=p5 (by omega)
   obtain ⟨hm,hms,hhb⟩:=p7 (by omega)
   have hlf:=hms.leaf0 (Pt.leafM HOK.out hm)
   have hpr:=Pt.fine_is h6 hu hc hm
   rw [HRR.out] at hpr
   have hnu:(Pt.getZ v Pt.nUsing).ls.length≤1048576:=by
    rcases Pt.getZ_nv v Pt.nUsing with h | h
    ·have:=Pt.nv_eq (Pt.getZ v Pt.nUsing);have:=Pt.nvL_len (Pt.getZ v Pt.nUsing).ls;have:=HNV.out;omega
    ·rw [h];decide
   have hreq:Pt.reqOf v=(((Pt.getZ v Pt.nUsing).ls.map JV.tx,(Pt.getZ v Pt.nCalls).ls.map Pt.callC),((Pt.getZ v Pt.nIds).ms,hb)):=by unfold Pt.reqOf;rw [hhb]
   rw [hreq] at hpr
   obtain ⟨L,hL⟩:∃ L,(Pt.getZ v Pt.nUsing).ls.map JV.tx=L:=⟨_,rfl⟩
   obtain ⟨C,hC⟩:∃ C,(Pt.getZ v Pt.nCalls).ls.map Pt.callC=C:=⟨_,rfl⟩
   obtain ⟨M,hM⟩:∃ M,(Pt.getZ v Pt.nIds).ms=M:=⟨_,rfl⟩
   have hCl:(Pt.getZ v Pt.nCalls).ls.length=C.length:=by rw [← hC];simp
   have hLl:L.length≤1048576:=by rw [← hL];simpa using hnu
   rw [hL] at hss hpr
   rw [hC] at hcs hpr
   rw [hM] at hlf hpr
   rw [hCl] at hpr
   obtain ⟨Au,cu,rfl,hps⟩:=hss.shows
   obtain ⟨Ac,cc,rfl⟩:=hcs.is_slice
   obtain ⟨Am,cm,rfl⟩:=hlf.is_slice
   obtain ⟨ob,hob⟩:∃ b,Pt.odd L=b:=⟨_,rfl⟩
   rw [hob] at hpr
   have HC:Hid (∀ W,Fr wr W→Calls Tryz.prog 28 #[.slice Au L.length cu,(Value.func (.func 29) #[] #[])] W fun e w'=>e=.returned (.bool ob)∧Fr W w'):=Lib.hid (fun W hW=>codd_is L Au cu W (hps.keep hW) (by omega) ob hob)
   obtain ⟨⟨r0,r1,r2,r3⟩,_⟩:=box4r hRr.out
   have HSS:=Lib.hid hss
   have HCS:=Lib.hid hcs
   have HMS:=Lib.hid hlf
   have HPR:=Lib.hid hpr
   clear hP p1 p2 p3 p4 p5 p6 p7 h6 hu hc hm hms hhb hnu hreq hL hC hM hCl hLl hss hcs hlf hpr hps hob
   cases ob
   ·by_cases h16:16<C.length
    ·have h16':(16:Int)<(C.length:Int):=by omega
     have HRB:Hid (r=.bad Pt.kLim Pt.kCalls):=Lib.hid (by rw [HPR.out,if_neg (by decide),if_pos h16])
     clear h16
     go_wp2_with (first
      | (go_at_call 20;have hm9:=HX9.out;refine (HP3.out _).mono ?_;rintro e w5 ⟨D,g,rfl,hm,hf⟩;obtain ⟨⟨r0,r1,r2,r3⟩,rf0,rf1,rf2,rf3⟩:=box4r (HX9.out.keep hf);obtain ⟨⟨y0,y1,y2,y3,y4⟩,yf0,yf1,yf2,yf3,yf4⟩:=box5 (HY9.out.keep hf);have HM5:=Lib.hid hm;have HF5:=Lib.hid hf;clear hm hf)
      | (go_at_call 28;refine (HC.out _ (Fr.refl _)).mono ?_;rintro e w2 ⟨rfl,hf⟩;obtain ⟨⟨k0,k1,k2,k3⟩,_⟩:=box4r (hRr.out.keep hf);have HX9:=Lib.hid (HX7.out.frx (hX.out.fr hf) HXR.out.1);have HY9:=Lib.hid (HY7.out.frx (hX.out.fr hf) HXR.out.2);have HW9:=Lib.hid (Fr.thenX HF7.out HwR.out.1 HwR.out.2 (hX.out.fr hf));clear hf))
     obtain ⟨h1,h2,h3⟩:=prp_bad (K:=Pt.kLim) (L:=Pt.kCalls) (n:=3) rfl hXY.out ⟨HXw.out,HX9.out.lt⟩ ⟨HYw.out,HY9.out.lt⟩ (HX9.out.keep HF5.out) (HY9.out.keep HF5.out) HW9.out HF5.out HM5.out
     rw [HRB.out]
     exact bodyPost_ret (results_rv (by rfl) rfl rfl _ X Y (by rfl) (by rfl) _ _ _ _ _ _ _ _ _ h1 h2) rfl h3
    ·have h16':¬ (16:Int)<(C.length:Int):=by omega
     have HRB:Hid (r=.ok ((L,C),(M,hb))):=Lib.hid (by rw [HPR.out,if_neg (by decide),if_neg h16])
     clear h16
     go_wp2_with (go_at_call 28;refine (HC.out _ (Fr.refl _)).mono ?_;rintro e w2 ⟨rfl,hf⟩;obtain ⟨⟨k0,k1,k2,k3⟩,_⟩:=box4r (hRr.out.keep hf);have hx9:=HX7.out.frx (hX.out.fr hf) HXR.out.1;have hy9:=HY7.out.frx (hX.out.fr hf) HXR.out.2;obtain ⟨⟨r0,r1,r2,r3⟩,rf0,rf1,rf2,rf3⟩:=box4r hx9;obtain ⟨⟨y0,y1,y2,y3,y4⟩,yf0,yf1,yf2,yf3,yf4⟩:=box5 hy9;have HX9:=Lib.hid hx9;have HY9:=Lib.hid hy9;have HF2:=Lib.hid hf;have HW9:=Lib.hid (Fr.thenX HF7.out HwR.out.1 HwR.out.2 (hX.out.fr hf));clear hf hx9 hy9)
     rw [HRB.out]
     have hb1:=(st4_x HX9.out (.slice Au L.length cu) (.slice Ac C.length cc) (.slice Am M.length cm) (.bool hb)).frx (st5_frx _ Y (.int .i64 0) (.int .i64 0) (.string ⟨#[]⟩) (.slice none 0 0) (.slice none 0 0)) (fun e=>hXY.out e.symm)
     have hb2:=st5_x (HY9.out.frx (st4_frx _ X (.slice Au L.length cu) (.slice Ac C.length cc) (.slice Am M.length cm) (.bool hb)) hXY.out) (.int .i64 0) (.int .i64 0) (.string ⟨#[]⟩) (.slice none 0 0) (.slice none 0 0)
     have hXK:X<W7.heap.size:=HX7.out.lt
     have hYK:Y<W7.heap.size:=HY7.out.lt
     refine bodyPost_ret (results_rv (by rfl) rfl rfl _ X Y (by rfl) (by rfl) _ _ _ _ _ _ _ _ _ hb1 hb2) rfl ?_
     have hs1:=Row.frx (Row.frx (HSS.out.keep HF2.out) hXK (st4_frx _ X (.slice Au L.length cu) (.slice Ac C.length cc) (.slice Am M.length cm) (.bool hb))) hYK (st5_frx _ Y (.int .i64 0) (.int .i64 0) (.string ⟨#[]⟩) (.slice none 0 0) (.slice none 0 0))
     have hnx:∀ b,Be W0.heap.size X4 b→b≠X∧b≠Y:=fun b hb=>⟨fun e=>by have:=hb.1;have:=HX0.out.lt;omega,fun e=>by have:=hb.1;have:=HY0.out.lt;omega⟩
     have hs2:=(((HCS.out.keep HF2.out).frx (fun b hb=>(hnx b hb).1) hXK (st4_frx _ X (.slice Au L.length cu) (.slice Ac C.length cc) (.slice Am M.length cm) (.bool hb))).frx (fun b hb=>(hnx b hb).2) hYK (st5_frx _ Y (.int .i64 0) (.int .i64 0) (.string ⟨#[]⟩) (.slice none 0 0) (.slice none 0 0))).more HBe.out (fun b hb=>hb.2)
     have hs3:=((HMS.out.keep HF2.out).frx (Nat.zero_le _) hXK (st4_frx _ X (.slice Au L.length cu) (.slice Ac C.length cc) (.slice Am M.length cm) (.bool hb))).frx (Nat.zero_le _) hYK (st5_frx _ Y (.int .i64 0) (.int .i64 0) (.string ⟨#[]⟩) (.slice none 0 0) (.slice none 0 0))
     exact ⟨⟨_,_,_,W7.heap.size,rfl,HF7.out.size,hs2.1.2,hs1,hs2,hs3⟩,st5_fr (st4_fr HW9.out HXw.out _ _ _ _) HYw.out _ _ _ _ _⟩
   ·have HRB:Hid (r=.bad Pt.kCap []):=Lib.hid (by rw [HPR.out,if_pos rfl])
    go_wp2_with (first
     | (go_at_call 20;have hm9:=HX9.out;refine (HP2.out _).mono ?_;rintro e w5 ⟨D,g,rfl,hm,hf⟩;obtain ⟨⟨r0,r1,r2,r3⟩,rf0,rf1,rf2,rf3⟩:=box4r (HX9.out.keep hf);obtain ⟨⟨y0,y1,y2,y3,y4⟩,yf0,yf1,yf2,yf3,yf4⟩:=box5 (HY9.out.keep hf);have HM5:=Lib.hid hm;have HF5:=Lib.hid hf;clear hm hf)
     | (go_at_call 28;refine (HC.out _ (Fr.refl _)).mono ?_;rintro e w2 ⟨rfl,hf⟩;have HX9:=Lib.hid (HX7.out.frx (hX.out.fr hf) HXR.out.1);have HY9:=Lib.hid (HY7.out.frx (hX.out.fr hf) HXR.out.2);have HW9:=Lib.hid (Fr.thenX HF7.out HwR.out.1 HwR.out.2 (hX.out.fr hf));clear hf))
    obtain ⟨h1,h2,h3⟩:=prp_bad (K:=Pt.kCap) (L:=[]) (n:=2) rfl hXY.out ⟨HXw.out,HX9.out.lt⟩ ⟨HYw.out,HY9.out.lt⟩ (HX9.out.keep HF5.out) (HY9.out.keep HF5.out) HW9.out HF5.out HM5.out
    rw [HRB.out]
    exact bodyPost_ret (results_rv (by rfl) rfl rfl _ X Y (by rfl) (by rfl) _ _ _ _ _ _ _ _ _ h1 h2) rfl h3

theorem parse_is (s:ByteArray) (w:World) (hs:s.size≤140737488351232) (hT:LowTabs w):Calls Tryz.prog 7 #[.string s] w (PrP w (Pt.parse s.data.toList)):=by
 have hl:s.data.toList.length=s.size:=by simp
 unfold Pt.parse
 rw [hl]
 split
 ·rename_i h;exact parse_big s w hs h
 ·rename_i h
  cases hr:Rd.rdS s.data.toList with
  | out=>exact absurd hr (Rd.rdS_out _)
  | bad a c=>exact parse_no s a c w (by omega) hT hr
  | ok v l q=>exact parse_v s v l q w (by omega) hT hr _ rfl
end Go.Proofs.YtockgemmkjdnkaaGreatDoor
