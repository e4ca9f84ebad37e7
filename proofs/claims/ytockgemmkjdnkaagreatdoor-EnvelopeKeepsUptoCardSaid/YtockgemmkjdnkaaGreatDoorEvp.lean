/- Chapter 25: what the laws' awake sees. -/
import Derived.Test.YtockgemmkjdnkaaGreatDoorEvo
import Derived.Test.YtockgemmkjdnkaaGreatDoorEvl
set_option maxRecDepth 100000
set_option maxHeartbeats 4000000
set_option linter.unusedVariables false
set_option linter.unusedSimpArgs false
namespace Go.Proofs.YtockgemmkjdnkaaGreatDoor
open Go.RowKit

def aw25c:CallV:=(([67,111,114,101,47,101,99,104,111],JV.mapV []),[97])
def aw25s1:ByteArray:=⟨#[123,34,117,115,105,110,103,34,58,91,93,44,34,109,101,116,104,111,100,67,97,108,108,115,34,58,91,91,34,67,111,114,101,47,101,99,104,111,34,44,123,125,44,34,97,34,93,93,125]⟩
theorem aw25_1:Pt.parse aw25s1.data.toList=.ok (([],[aw25c]),([],false)):=by kernel_rfl
def aw25s2:ByteArray:=⟨#[91,93]⟩
theorem aw25_2:Pt.parse aw25s2.data.toList=.bad Pt.kReq []:=by kernel_rfl
def aw25s3:ByteArray:=⟨#[123,34,117,115,105,110,103,34,58,91,34,120,34,93,44,34,109,101,116,104,111,100,67,97,108,108,115,34,58,91,93,125]⟩
theorem aw25_3:Pt.parse aw25s3.data.toList=.bad Pt.kCap []:=by kernel_rfl
theorem prm_in {w:World} {K:Nat} {k l:List UInt8} {D:Option Addr} {n g:Nat} (h:MsB w 0 K (.slice D n g) (Pt.prM k l)):InV w (Lo w.heap.size) (Pt.prV k l) (.agg #[.int .i64 6,.int .i64 0,.string ⟨#[]⟩,.slice none 0 0,(.slice D n g)]):=by
 have:=(h.inV (by unfold Pt.prM;split <;> simp)).more (S':=Lo w.heap.size) (λb hb=>by rcases hb with hb | hb;exact absurd hb (by omega);exact hb.2);exact this
theorem aw25_p1 (w:World) (hT:LowTabs w):Calls Tryz.prog 7 #[.string aw25s1] w λe w'=>(∃ (A1:Option Addr) (c1:Nat) (A2:Option Addr) (c2:Nat) (A3:Option Addr) (c3:Nat),e=.returned (.tuple #[.agg #[.slice A1 0 c1,.slice A2 1 c2,.slice A3 0 c3,.bool false],.agg #[.int .i64 0,.int .i64 0,.string ⟨#[]⟩,.slice none 0 0,.slice none 0 0]])/\CsR w' A2 [aw25c])/\Fr w w':=by
 have h:=parse_is aw25s1 w (of_decide_eq_true (by kernel_rfl)) hT;rw [aw25_1] at h;refine h.mono ?_;rintro e w' ⟨⟨us,cs,crs,Z,rfl,_,_,h1,h2,h3⟩,hf⟩;obtain ⟨A1,c1,rfl,_⟩:=h1.shows;obtain ⟨A2,c2,rfl,hc⟩:=h2.shows;obtain ⟨A3,c3,rfl⟩:=h3.is_slice;exact ⟨⟨A1,c1,A2,c2,A3,c3,rfl,hc⟩,hf⟩
theorem aw25_p2 (w:World) (hT:LowTabs w):Calls Tryz.prog 7 #[.string aw25s2] w λe w'=>(∃ (D:Option Addr) (g:Nat),e=.returned (.tuple #[.agg #[.slice none 0 0,.slice none 0 0,.slice none 0 0,.bool false],.agg #[.int .i64 6,.int .i64 0,.string ⟨#[]⟩,.slice none 0 0,(.slice D 2 g)]])/\InV w' (Lo w'.heap.size) (Pt.prV Pt.kReq []) (.agg #[.int .i64 6,.int .i64 0,.string ⟨#[]⟩,.slice none 0 0,(.slice D 2 g)]))/\Fr w w':=by
 have h:=parse_is aw25s2 w (of_decide_eq_true (by kernel_rfl)) hT;rw [aw25_2] at h;refine h.mono ?_;rintro e w' ⟨⟨D,g,rfl,hm⟩,hf⟩;exact ⟨⟨D,g,rfl,prm_in hm⟩,hf⟩
theorem aw25_p3 (w:World) (hT:LowTabs w):Calls Tryz.prog 7 #[.string aw25s3] w λe w'=>(∃ (D:Option Addr) (g:Nat),e=.returned (.tuple #[.agg #[.slice none 0 0,.slice none 0 0,.slice none 0 0,.bool false],.agg #[.int .i64 6,.int .i64 0,.string ⟨#[]⟩,.slice none 0 0,(.slice D 2 g)]])/\InV w' (Lo w'.heap.size) (Pt.prV Pt.kCap []) (.agg #[.int .i64 6,.int .i64 0,.string ⟨#[]⟩,.slice none 0 0,(.slice D 2 g)]))/\Fr w w':=by
 have h:=parse_is aw25s3 w (of_decide_eq_true (by kernel_rfl)) hT;rw [aw25_3] at h;refine h.mono ?_;rintro e w' ⟨⟨D,g,rfl,hm⟩,hf⟩;exact ⟨⟨D,g,rfl,prm_in hm⟩,hf⟩
theorem aw25_t2 (D:Option Addr) (g:Nat) (w:World) (h:InV w (Lo w.heap.size) (Pt.prV Pt.kReq []) (.agg #[.int .i64 6,.int .i64 0,.string ⟨#[]⟩,.slice none 0 0,(.slice D 2 g)])):Calls Tryz.prog 17 #[.agg #[.int .i64 6,.int .i64 0,.string ⟨#[]⟩,.slice none 0 0,(.slice D 2 g)]] w λe w'=>e=.returned (.tuple #[.string ⟨#[123,34,116,121,112,101,34,58,34,117,114,110,58,105,101,116,102,58,112,97,114,97,109,115,58,106,109,97,112,58,101,114,114,111,114,58,110,111,116,82,101,113,117,101,115,116,34,44,34,115,116,97,116,117,115,34,58,52,48,48,125]⟩,.int .i64 0])/\Fr w w':=
 text_is (Pt.prV Pt.kReq []) none 0 D g w 0 3 [123,34,116,121,112,101,34,58,34,117,114,110,58,105,101,116,102,58,112,97,114,97,109,115,58,106,109,97,112,58,101,114,114,111,114,58,110,111,116,82,101,113,117,101,115,116,34,44,34,115,116,97,116,117,115,34,58,52,48,48,125] h (by kernel_rfl) (by kernel_rfl) (by decide)
theorem aw25_r (A:Option Addr) (c:Nat) (w:World) (h:CsR w A [aw25c]):Calls Tryz.prog 19 #[.slice A 1 c,.slice none 0 0,.bool false] w λe w'=>(∃ (D:Option Addr) (g:Nat),e=.returned (.agg #[.int .i64 6,.int .i64 0,.string ⟨#[]⟩,.slice none 0 0,(.slice D 2 g)])/\InV w' (Lo w'.heap.size) (JV.mapV [(Pt.nResp,JV.listV [Pt.respC aw25c]),(Pt.nState,JV.textV [48])]) (.agg #[.int .i64 6,.int .i64 0,.string ⟨#[]⟩,.slice none 0 0,(.slice D 2 g)]))/\Fr w w':=by
 refine (eresp_no [aw25c] A c 0 0 none w h (by simp) (λp hp=>by simp at hp;subst hp;decide)).mono ?_;rintro e w' ⟨⟨D,g,K,rfl,hK,hm⟩,hf⟩;exact ⟨⟨D,g,rfl,(hm.inV (by simp)).more (λb hb=>by have:=hm.1.2;rcases hb with hb | hb;exact lL hb this;exact hb.2)⟩,hf⟩
theorem aw25_t3 (D:Option Addr) (g:Nat) (w:World) (h:InV w (Lo w.heap.size) (JV.mapV [(Pt.nResp,JV.listV [Pt.respC aw25c]),(Pt.nState,JV.textV [48])]) (.agg #[.int .i64 6,.int .i64 0,.string ⟨#[]⟩,.slice none 0 0,(.slice D 2 g)])):Calls Tryz.prog 17 #[.agg #[.int .i64 6,.int .i64 0,.string ⟨#[]⟩,.slice none 0 0,(.slice D 2 g)]] w λe w'=>e=.returned (.tuple #[.string ⟨#[123,34,109,101,116,104,111,100,82,101,115,112,111,110,115,101,115,34,58,91,91,34,67,111,114,101,47,101,99,104,111,34,44,123,125,44,34,97,34,93,93,44,34,115,101,115,115,105,111,110,83,116,97,116,101,34,58,34,48,34,125]⟩,.int .i64 0])/\Fr w w':=
 text_is (JV.mapV [(Pt.nResp,JV.listV [Pt.respC aw25c]),(Pt.nState,JV.textV [48])]) none 0 D g w 0 7 [123,34,109,101,116,104,111,100,82,101,115,112,111,110,115,101,115,34,58,91,91,34,67,111,114,101,47,101,99,104,111,34,44,123,125,44,34,97,34,93,93,44,34,115,101,115,115,105,111,110,83,116,97,116,101,34,58,34,48,34,125] h (by kernel_rfl) (by kernel_rfl) (by decide)
theorem aw25_g (D:Option Addr) (g:Nat) (w:World) (h:InV w (Lo w.heap.size) (Pt.prV Pt.kCap []) (.agg #[.int .i64 6,.int .i64 0,.string ⟨#[]⟩,.slice none 0 0,(.slice D 2 g)])):Calls Tryz.prog 34 #[.agg #[.int .i64 6,.int .i64 0,.string ⟨#[]⟩,.slice none 0 0,(.slice D 2 g)],.string ⟨#[116,121,112,101]⟩] w λe w'=>(∃ (C:Option Addr) (f:Nat) (C':Option Addr) (f':Nat),e=.returned (.tuple #[.agg #[.int .i64 4,.int .i64 0,.string ⟨#[117,114,110,58,105,101,116,102,58,112,97,114,97,109,115,58,106,109,97,112,58,101,114,114,111,114,58,117,110,107,110,111,119,110,67,97,112,97,98,105,108,105,116,121]⟩,.slice C 0 f,.slice C' 0 f'],.bool true]))/\Fr w w':=by
 have h1:=get_is (Pt.prV Pt.kCap []) none 0 D g [116,121,112,101] w w.heap.size (lR _) h;rw [show Pt.get (Pt.prV Pt.kCap []) [116,121,112,101]=some (JV.textV [117,114,110,58,105,101,116,102,58,112,97,114,97,109,115,58,106,109,97,112,58,101,114,114,111,114,58,117,110,107,110,111,119,110,67,97,112,97,98,105,108,105,116,121]) from by kernel_rfl] at h1;refine h1.mono ?_;rintro e w' ⟨C,f,C',f',he,_,hf⟩;exact ⟨⟨C,f,C',f',he⟩,hf⟩

theorem awake25 (w:World) (hT:LowTabs w):Calls Tryz.prog 9 #[] w λe w'=>e=.returned (.bool true)/\Fr w w':=by
 have HT:=LH hT;clear hT;go_enter Tryz.func9,Tryz.ntmps9
 go_upto_region 2 with (go_at_call 7;refine (aw25_p1 _ HT.out).mono ?_;rintro e w1 ⟨⟨A1,c1,A2,c2,A3,c3,rfl,hc⟩,hf⟩;have HC1:=LH hc;have HF1:=LH hf;clear hc hf)
 obtain ⟨W1,hW⟩:∃ W,W=((w1.alloc (.cells #[.slice A1 0 c1,.slice A2 1 c2,.slice A3 0 c3,.bool false] 26)).alloc (.cells #[.int .i64 0,.int .i64 0,.string ⟨#[]⟩,.slice none 0 0,.slice none 0 0] 29)):=⟨_,rfl⟩;have hkk:Fr w1 W1:=by rw [hW];exact ((FR w1).alloc _).alloc _
 have hb1:Blk W1 w1.heap.size #[.slice A1 0 c1,.slice A2 1 c2,.slice A3 0 c3,.bool false] 26:=by rw [hW];exact (Blk.made w1 _ _).keep ((FR _).alloc _)
 have hb2:Blk W1 (w1.heap.size+1) #[.int .i64 0,.int .i64 0,.string ⟨#[]⟩,.slice none 0 0,.slice none 0 0] 29:=by rw [hW];exact boxz (Blk.made (w1.alloc _) _ _)
 have hc1:=HC1.out.keep hkk;have hf1:=HF1.out.trans hkk;rw [<- hW];clear hW hkk;generalize w1.heap.size+1=Y1 at hb2 ⊢;generalize w1.heap.size=X1 at hb1 ⊢;have HB1:=LH hb1;have HB2:=LH hb2;have HCC:=LH hc1;have HW1:=LH hf1;clear hb1 hb2 hc1 hf1;go_upto_region 3 with (go_at_call 7;refine (aw25_p2 _ (HT.out.keep HW1.out)).mono ?_;rintro e w2 ⟨⟨D,g,rfl,hv⟩,hf⟩;have HV2:=LH hv;have HF2:=LH hf;clear hv hf)
 obtain ⟨W2,hW⟩:∃ W,W=((w2.alloc (.cells #[.slice none 0 0,.slice none 0 0,.slice none 0 0,.bool false] 26)).alloc (.cells #[.int .i64 6,.int .i64 0,.string ⟨#[]⟩,.slice none 0 0,(.slice D 2 g)] 29)):=⟨_,rfl⟩;have hkk:Fr w2 W2:=by rw [hW];exact ((FR w2).alloc _).alloc _
 have hb4:Blk W2 (w2.heap.size+1) #[.int .i64 6,.int .i64 0,.string ⟨#[]⟩,.slice none 0 0,(.slice D 2 g)] 29:=by rw [hW];exact boxz (Blk.made (w2.alloc _) _ _)
 have hv2:=(HV2.out.keep (lR _) hkk).lo hkk.size;have hf2:=HF2.out.trans hkk;rw [<- hW];clear hW hkk;generalize w2.heap.size+1=Y2 at hb4 ⊢;generalize w2.heap.size=X2 at ⊢;have HB4:=LH hb4;have HVV2:=LH hv2;have HW2:=LH hf2;clear hb4 hv2 hf2;go_upto_region 4 with (go_at_call 7;refine (aw25_p3 _ (HT.out.keep (HW1.out.trans HW2.out))).mono ?_;rintro e w3 ⟨⟨D3,g3,rfl,hv⟩,hf⟩;have HV3:=LH hv;have HF3:=LH hf;clear hv hf)
 obtain ⟨W3,hW⟩:∃ W,W=((w3.alloc (.cells #[.slice none 0 0,.slice none 0 0,.slice none 0 0,.bool false] 26)).alloc (.cells #[.int .i64 6,.int .i64 0,.string ⟨#[]⟩,.slice none 0 0,(.slice D3 2 g3)] 29)):=⟨_,rfl⟩;have hkk:Fr w3 W3:=by rw [hW];exact ((FR w3).alloc _).alloc _
 have hb6:Blk W3 (w3.heap.size+1) #[.int .i64 6,.int .i64 0,.string ⟨#[]⟩,.slice none 0 0,(.slice D3 2 g3)] 29:=by rw [hW];exact boxz (Blk.made (w3.alloc _) _ _)
 have hv3:=(HV3.out.keep (lR _) hkk).lo hkk.size;have hf3:=HF3.out.trans hkk;rw [<- hW];clear hW hkk;generalize w3.heap.size+1=Y3 at hb6 ⊢;generalize w3.heap.size=X3 at ⊢;have HB6:=LH hb6;have HVV3:=LH hv3;have HW3:=LH hf3;clear hb6 hv3 hf3;obtain ⟨⟨q0,q1,q2,q3,q4⟩,_⟩:=box5 (HB4.out.keep HW3.out);go_upto_region 5 with (go_at_call 17;refine (aw25_t2 D g _ ((HVV2.out.keep (lR _) HW3.out).lo HW3.out.size)).mono ?_;rintro e w4 ⟨rfl,hf⟩;have HF4:=LH hf;clear hf)
 clear q0 q1 q2 q3 q4;obtain ⟨⟨p0,p1,p2,p3⟩,_⟩:=box4r (HB1.out.keep ((HW2.out.trans HW3.out).trans HF4.out));go_upto_region 6 with (first
  | (go_at_call 17;have hm:=HF5.out;refine (aw25_t3 D5 g5 _ HV5.out).mono ?_;rintro e w6 ⟨rfl,hf⟩;have HF6:=LH (hm.trans hf);clear hf hm)
  | (go_at_call 19;refine (aw25_r A2 c2 _ (HCC.out.keep ((HW2.out.trans HW3.out).trans HF4.out))).mono ?_;rintro e w5 ⟨⟨D5,g5,rfl,hv⟩,hf⟩;have HV5:=LH hv;have HF5:=LH hf;clear hv hf))
 clear p0 p1 p2 p3;obtain ⟨⟨q0,q1,q2,q3,q4⟩,_⟩:=box5 (HB6.out.keep (HF4.out.trans HF6.out));go_upto_region 7 with (go_at_call 34;refine (aw25_g D3 g3 _ ((HVV3.out.keep (lR _) (HF4.out.trans HF6.out)).lo (HF4.out.trans HF6.out).size)).mono ?_;rintro e w7 ⟨⟨C,f,C',f',rfl⟩,hf⟩;have HF7:=LH hf;clear hf)
 clear q0 q1 q2 q3 q4;have HK1:=LH ((((HW2.out.trans HW3.out).trans HF4.out).trans HF6.out).trans (HF7.out.alloc (.cells #[.int .i64 4,.int .i64 0,.string ⟨#[117,114,110,58,105,101,116,102,58,112,97,114,97,109,115,58,106,109,97,112,58,101,114,114,111,114,58,117,110,107,110,111,119,110,67,97,112,97,98,105,108,105,116,121]⟩,.slice C 0 f,.slice C' 0 f'] 29)));obtain ⟨⟨p0,p1,p2,p3⟩,_⟩:=box4r (HB1.out.keep HK1.out);obtain ⟨⟨q0,q1,q2,q3,q4⟩,_⟩:=box5 (HB2.out.keep HK1.out);obtain ⟨b,o,E,e,E',e',rfl,hb,n0,_⟩:=(HCC.out.keep HK1.out) 0 (by simp);have n0:World.cell? _ ⟨b,o,none⟩=some (.string ⟨#[67,111,114,101,47,101,99,104,111]⟩):=n0;go_wp2_with fail
 go_ret
 exact ⟨rfl,HW1.out.trans HK1.out⟩
/- Chapter 25, plain: what is true of a request that is one, and of a problem. -/

namespace Pt
def PbOk (K L:List UInt8):Prop:=(∃ q,JV.chk (prV K L) 1 0=(0,q))/\(JV.wrt (prV K L)).length<200/\get (prV K L) [115,116,97,116,117,115]=some (.mk 3 400 [] [] [])
def PaOk (s:List UInt8):Pa->Prop
 | .bad K L=>PbOk K L
 | .ok r=>s.length<=65536/\r.1.2.length<=16/\(r.2.2=true\/r.2.1=[]) /\ ∀ c∈r.1.2,c.1.2.kd=6 /\ ∃ q,JV.chk c.1.2 1 0=(0,q)
end Pt
/- Chapter 25: the laws' request. -/

theorem results_cq {fn:Func} {p:Tmp} {t1:TypeId} (hf:fn.results=#[.cell p t1]) (h1:t1=32) (w:World) (X:Nat) {tmps:Array Value} (hp:tmps.getD p undef=.pointer (some ⟨X,0,none⟩))
  (a b c d:Value) (hX:Blk w X #[a,b,c,d] 32):
  (results fn tmps).run Tryz.prog w=.ok (.agg #[a,b,c,d]) w:=by
 subst h1;have x0:=hX.cell 0;have x1:=hX.cell 1;have x2:=hX.cell 2;have x3:=hX.cell 3;simp at hp x0 x1 x2 x3;simp [results,hf,hp,go_sem,x0,x1,x2,x3]
theorem req_is (A1:Option Addr) (n1 c1:Nat) (A2:Option Addr) (n2 c2:Nat) (A3:Option Addr) (n3 c3:Nat) (h:Bool) (w:World):
  Calls Tryz.prog 11 #[.agg #[.slice A1 n1 c1,.slice A2 n2 c2,.slice A3 n3 c3,.bool h]] w λe w'=>e=.returned (.agg #[.slice A1 n1 c1,.slice A2 n2 c2,.slice A3 n3 c3,.bool h])/\Fr w w':=by
 go_enter Tryz.func11,Tryz.ntmps11
 go_upto_region 1 with fail
 have hx0:Blk ((w.alloc (.cells #[.slice A1 n1 c1,.slice A2 n2 c2,.slice A3 n3 c3,.bool h] 26)).alloc (.cells #[.slice none 0 0,.slice none 0 0,.slice none 0 0,.bool false] 32)) w.heap.size #[.slice A1 n1 c1,.slice A2 n2 c2,.slice A3 n3 c3,.bool h] 26:=(Blk.made w _ _).keep ((FR _).alloc _);have hy0:Blk ((w.alloc (.cells #[.slice A1 n1 c1,.slice A2 n2 c2,.slice A3 n3 c3,.bool h] 26)).alloc (.cells #[.slice none 0 0,.slice none 0 0,.slice none 0 0,.bool false] 32)) (w.heap.size+1) #[.slice none 0 0,.slice none 0 0,.slice none 0 0,.bool false] 32:=boxz (Blk.made (w.alloc _) _ _);have hf0:Fr w ((w.alloc (.cells #[.slice A1 n1 c1,.slice A2 n2 c2,.slice A3 n3 c3,.bool h] 26)).alloc (.cells #[.slice none 0 0,.slice none 0 0,.slice none 0 0,.bool false] 32)):=((FR w).alloc _).alloc _;generalize ((w.alloc (.cells #[.slice A1 n1 c1,.slice A2 n2 c2,.slice A3 n3 c3,.bool h] 26)).alloc (.cells #[.slice none 0 0,.slice none 0 0,.slice none 0 0,.bool false] 32))=W0 at hx0 hy0 hf0 ⊢;have hYw:w.heap.size<=w.heap.size+1:=Nat.le_succ _;have nXY:¬ w.heap.size=w.heap.size+1:=by omega
 have nYX:¬ w.heap.size+1=w.heap.size:=by omega
 have HYw:=LH hYw;generalize w.heap.size+1=Y at hy0 nXY nYX HYw ⊢;have HF0:=LH hf0;have HY0:=LH hy0;obtain ⟨⟨x0,x1,x2,x3⟩,_⟩:=box4r hx0;obtain ⟨⟨y0,y1,y2,y3⟩,yf0,yf1,yf2,yf3⟩:=box4r hy0;clear hx0 hy0 hf0 hYw;go_wp2_with fail
 refine bodyPost_ret (results_cq (by rfl) rfl _ Y (by rfl) _ _ _ _ (st4_x HY0.out _ _ _ _)) rfl ?_;exact ⟨rfl,st4_fr HF0.out HYw.out _ _ _ _⟩
/- Chapter 25: EnvelopeSorts' walk. -/

end Go.Proofs.YtockgemmkjdnkaaGreatDoor
