/- Chapter 25: what the last laws share. -/
import Derived.Test.YtockgemmkjdnkaaGreatDoorEvy
import Derived.Test.YtockgemmkjdnkaaGreatDoorFew
import Derived.Test.YtockgemmkjdnkaaGreatDoorEvu
import Derived.Test.YtockgemmkjdnkaaGreatDoorEvp
import Derived.Deep.RegionHeld
set_option maxRecDepth 100000
set_option maxHeartbeats 8000000
set_option linter.unusedVariables false
set_option linter.unusedSimpArgs false
namespace Go.Proofs.YtockgemmkjdnkaaGreatDoor
open Go.RowKit

theorem InV.go {w w':World} {v:JV} {x:Value} (h:InV w (Lo w.heap.size) v x) (hf:Fr w w'):InV w' (Lo w'.heap.size) v x:=(h.keep (lR _) hf).lo hf.size
theorem Pt.bulkC_nm {cs:List CallV} (h:Pt.bulkC cs<=1048576):∀ p∈cs,p.1.1.length<=140737488355328/\p.2.length<=140737488355328:=λp hp=>by
 have:=Pt.bulkC_mem hp;exact ⟨by omega,by omega⟩
/- Chapter 25: EnvelopeKeeps' walk. -/

theorem row_blk {w:World} {base n:Nat} {e:TypeId} {size:Nat} {v:Value} {xs:List Value} (h:w.ownsRow base e size v n xs) (h0:0<n):∃ g cap cur,v=.slice (some ⟨g,0,none⟩) n cap/\base<=g/\Blk w g cur e/\n*size<=cur.size:=by
 obtain ⟨_,⟨_,hn⟩ | ⟨g,cap,cur,hv,hb,hg,hc,hm,hs,ht⟩⟩:=h
 ·omega
 ·exact ⟨g,cap,cur,hv,hb,hg,by rw [hs];exact Nat.mul_le_mul_right _ hc⟩
theorem MgT.blk {w:World} {S:Nat->Prop} {K n c:Nat} {A:Option Addr} {m:List (List UInt8 × JV)} (h:MgT w S K (.slice A n c) m) (h0:0<m.length):∃ g cur,A=some ⟨g,0,none⟩/\K<=g/\Blk w g cur 44/\m.length*6<=cur.size:=by
 obtain ⟨_,xs,h1,h2,_⟩:=h;obtain ⟨g,cap,cur,hv,hb,hg,hs⟩:=row_blk h1.1 (by omega);injection hv with e1 _ _;exact ⟨g,cur,e1,hb,hg,by rw [<- h2];exact hs⟩
theorem MsB.blk {w:World} {Z K n c:Nat} {A:Option Addr} {m:List (List UInt8 × JV)} (h:MsB w Z K (.slice A n c) m) (h0:0<m.length):∃ g cur,A=some ⟨g,0,none⟩/\K<=g/\Blk w g cur 44/\m.length*6<=cur.size:=by
 obtain ⟨_,xs,h1,h2,_⟩:=h;obtain ⟨g,cap,cur,hv,hb,hg,hs⟩:=row_blk h1.1 (by omega);injection hv with e1 _ _;exact ⟨g,cur,e1,hb,hg,by rw [<- h2];exact hs⟩
theorem CsB.blk {w:World} {S:Nat->Prop} {K n c:Nat} {A:Option Addr} {m:List CallV} (h:CsB w S K (.slice A n c) m) (h0:0<m.length):∃ g cur,A=some ⟨g,0,none⟩/\K<=g/\Blk w g cur 50/\m.length*7<=cur.size:=by
 obtain ⟨_,xs,h1,h2,_⟩:=h;obtain ⟨g,cap,cur,hv,hb,hg,hs⟩:=row_blk h1.1 (by omega);injection hv with e1 _ _;exact ⟨g,cur,e1,hb,hg,by rw [<- h2];exact hs⟩
theorem Row.frxB {w w':World} {R base:Nat} {e:TypeId} {v:Value} {xs:List Value} (h:Row w base e v xs) (hR:R<base) (hf:FrX R w w'):Row w' base e v xs:=by
 obtain ⟨h0,⟨h1,h2⟩ | ⟨g,cap,cur,hv,hb,hg,rest⟩⟩:=h
 ·exact ⟨h0,.inl ⟨h1,h2⟩⟩
 ·exact ⟨h0,.inr ⟨g,cap,cur,hv,hb,(hf.blk (Array.getElem?_eq_some_iff.1 hg).1 (by omega)).trans hg,rest⟩⟩
def PqP (W:World) (ul:List (List UInt8)) (cl:List CallV) (ml:List (List UInt8 × JV)) (hb:Bool):Ending->World->Prop:=λe w'=>(∃ (A1:Option Addr) (a1:Nat) (A2:Option Addr) (a2:Nat) (A3:Option Addr) (a3:Nat) (p0 p1:Int) (p2:ByteArray) (pE:Option Addr) (p3 p4:Nat) (pF:Option Addr) (p5 p6:Nat) (Z:Nat),e=.returned (.tuple #[.agg #[.slice A1 ul.length a1,.slice A2 cl.length a2,.slice A3 ml.length a3,.bool hb],.agg #[.int .i64 p0,.int .i64 p1,.string p2,.slice pE p3 p4,.slice pF p5 p6]])/\W.heap.size<=Z/\Z<=w'.heap.size/\Ssl w' Z (.slice A1 ul.length a1) ul/\CsB w' (Be W.heap.size Z) Z (.slice A2 cl.length a2) cl/\MsB w' 0 Z (.slice A3 ml.length a3) ml)/\Fr W w'
def PqR (W:World) (ul:List (List UInt8)) (cl:List CallV) (ml:List (List UInt8 × JV)) (hb:Bool):Ending->World->Prop:=λe w'=>(∃ (A1:Option Addr) (a1:Nat) (A2:Option Addr) (a2:Nat) (A3:Option Addr) (a3:Nat) (p0 p1:Int) (p2:ByteArray) (pE:Option Addr) (p3 p4:Nat) (pF:Option Addr) (p5 p6:Nat),e=.returned (.tuple #[.agg #[.slice A1 ul.length a1,.slice A2 cl.length a2,.slice A3 ml.length a3,.bool hb],.agg #[.int .i64 p0,.int .i64 p1,.string p2,.slice pE p3 p4,.slice pF p5 p6]])/\PsC w' A1 ul/\CsR w' A2 cl/\MsC w' (Lo w'.heap.size) A3 ml)/\Fr W w'
theorem msb_shows {w:World} {Z K:Nat} {v:Value} {l:List (List UInt8 × JV)} (h:MsB w Z K v l) (h63:l.length<=140737488355328):∃ A c,v=.slice A l.length c/\MsC w (Lo w.heap.size) A l:=by
 obtain ⟨A,c,rfl⟩:=h.is_slice;obtain ⟨A1,c1,A1',c1',he,_,hm⟩:=(h.inV h63).open_;have hA:A=A1':=by obtain ⟨_,_,_,_,e4⟩:=five he;injection e4
 subst hA;exact ⟨A,c,rfl,hm.map (λb hb=>by have:=h.1;show b<w.heap.size;rcases hb with hb | hb <;> omega) (λ_ _ _=>rfl)⟩
theorem Pt.pa_len {s:List UInt8} {r:Pt.ReqV} (h:Pt.parse s=.ok r):r.1.1.length<=1048576/\r.1.2.length<=1048576/\r.2.1.length<=1048576:=by
 unfold Pt.parse at h;split at h
 ·cases h
 ·cases hr:Rd.rdS s with
  | out=>rw [hr] at h;cases h
  | bad a c=>rw [hr] at h;cases h
  | ok v l q=>
   rw [hr] at h;obtain ⟨_,_,hq,hq2,_,_,_⟩:=Rd.rdS_right hr;have h:Pt.parseV v=.ok r:=h;unfold Pt.parseV at h;split at h
   ·cases h
   ·split at h
    ·cases h
    ·split at h
     ·cases h
     ·injection h with h;subst h;have hl:∀ k,(Pt.getZ v k).ls.length<=1048576/\(Pt.getZ v k).ms.length<=1048576:=λk=>by
       rcases Pt.getZ_nv v k with h | h
       ·have:=Pt.nv_eq (Pt.getZ v k);have:=Pt.nvL_len (Pt.getZ v k).ls;have:=Pt.nvM_len (Pt.getZ v k).ms;omega
       ·rw [h];decide
      unfold Pt.reqOf;exact ⟨by simpa using (hl Pt.nUsing).1,by simpa using (hl Pt.nCalls).1,(hl Pt.nIds).2⟩
theorem pq_both (s:ByteArray) (hs:s.size<=140737488351232):∃ (ul:List (List UInt8)) (cl:List CallV) (ml:List (List UInt8 × JV)) (hb:Bool),(ul.length<=1048576/\cl.length<=1048576/\ml.length<=1048576)/\(∀ W,LowTabs W->Calls Tryz.prog 7 #[.string s] W (PqP W ul cl ml hb))/\(∀ W,PtTab W->Calls Tryz.prog 8 #[.string s] W (PqR W ul cl ml hb)):=by
 cases hr:Pt.parse s.data.toList with
 | bad K L=>
  refine ⟨[],[],[],false,⟨by simp,by simp,by simp⟩,λW hW=>?_,λW hW=>?_⟩
  ·have h:=parse_is s W hs hW;rw [hr] at h;unfold PrP at h;refine h.mono ?_;rintro e w' ⟨⟨D,g,he,hm⟩,hf⟩;exact ⟨⟨none,0,none,0,none,0,_,_,_,_,_,_,_,_,_,W.heap.size,he,lR _,hf.size,Ssl.none_ _ _,CsB.none_ _ ⟨λb hb=>hb.2,hf.size⟩,MsB.none_ _ ⟨Nat.zero_le _,hf.size⟩⟩,hf⟩
  ·have h:=rparse_is s W hs hW;rw [hr] at h;unfold RqP at h;refine h.mono ?_;rintro e w' ⟨⟨D,g,he,hm⟩,hf⟩;exact ⟨⟨none,0,none,0,none,0,_,_,_,_,_,_,_,_,_,he,λh=>absurd rfl h,λi h=>absurd h (by simp),λi h=>absurd h (by simp)⟩,hf⟩
 | ok r=>
  obtain ⟨⟨ul,cl⟩,ml,hb⟩:=r;obtain ⟨l1,l2,l3⟩:=Pt.pa_len hr;refine ⟨ul,cl,ml,hb,⟨l1,l2,l3⟩,λW hW=>?_,λW hW=>?_⟩
  ·have h:=parse_is s W hs hW;rw [hr] at h;unfold PrP at h;refine h.mono ?_;rintro e w' ⟨⟨us,cs,crs,Z,rfl,hZ,hZ2,h1,h2,h3⟩,hf⟩;obtain ⟨A1,c1,rfl,_⟩:=h1.shows;obtain ⟨A2,c2,rfl,_⟩:=h2.shows;obtain ⟨A3,c3,rfl⟩:=h3.is_slice;exact ⟨⟨A1,c1,A2,c2,A3,c3,_,_,_,_,_,_,_,_,_,Z,rfl,hZ,hZ2,h1,h2,h3⟩,hf⟩
  ·have h:=rparse_is s W hs hW;rw [hr] at h;unfold RqP at h;refine h.mono ?_;rintro e w' ⟨⟨us,cs,crs,S,Z,rfl,hZ,h1,h2,h3⟩,hf⟩;obtain ⟨A1,c1,rfl,g1⟩:=h1.shows;obtain ⟨A2,c2,rfl,g2⟩:=h2.shows;obtain ⟨A3,c3,rfl,g3⟩:=msb_shows h3 (lT l3 (by decide));exact ⟨⟨A1,c1,A2,c2,A3,c3,_,_,_,_,_,_,_,_,_,rfl,g1,g2,g3⟩,hf⟩

theorem keeps_law (cs:List CallV) (A:Option Addr) (c:Nat) (ms:List (List UInt8 × JV)) (B:Option Addr) (d:Nat) (s:ByteArray) (w:World) (hc:CsR w A cs) (hm:MsC w (Lo w.heap.size) B ms) (h1:Pt.bulkC cs<=1048576) (h2:JV.bulkM ms<=1048576) (hs:s.size<=140737488351232) (hT:LowTabs w) (hP:PtTab w):
  Calls Tryz.prog 5 #[.slice A cs.length c,.slice B ms.length d,.string s] w λe w'=>e=.returned (.bool true)/\Fr w w':=by
 have HT:=LH hT;have HP:=LH hP;have hcl:cs.length<=1048576:=lT (Pt.bulkC_len cs) h1;have hml:ms.length<=1048576:=by have:=JV.bulkM_len ms;omega
 have hmk:∀ W,Fr w W->MsC W (Lo W.heap.size) B ms:=λW hW=>(hm.keep (lR _) hW).map (λb hb=>lL hb hW.size) (λ_ _ _=>rfl)
 obtain ⟨ul,cl,ml,hb,⟨l1,l2,l3⟩,hpa,hra⟩:=pq_both s hs;have l2':(cl.length:Int)<=1048576:=by omega
 have l3':(ml.length:Int)<=1048576:=by omega
 have HPA:=LH hpa;have HRA:=LH hra;have HFEW:Hid (∀ W,Fr w W->Calls Tryz.prog 13 #[.slice A cs.length c,.slice B ms.length d] W λe w'=>(∃ b:Bool,e=.returned (.bool b))/\Fr W w'):=LH (λW hW=>few25_is cs A c ms B d W (hc.keep hW) (hmk W hW) h1 h2);have HER:Hid (∀ W,Fr w W->Calls Tryz.prog 19 #[.slice A cs.length c,.slice B ms.length d,.bool true] W λe w'=>(∃ (D:Option Addr) (g gB:Nat),e=.returned (.agg #[.int .i64 6,.int .i64 0,.string ⟨#[]⟩,.slice none 0 0,.slice D 3 g])/\D=some ⟨gB,0,none⟩/\W.heap.size<=gB /\ ∃ cur,Blk w' gB cur 44/\3*6<=cur.size)/\Fr W w'):=LH (λW hW=>by
  refine (eresp_yes cs A c ms B d W (hc.keep hW) (hmk W hW) hcl hml (Pt.bulkC_nm h1)).mono ?_;rintro e w' ⟨⟨D,g,S,he,hm⟩,hf⟩;obtain ⟨gB,cur,hD,hK,hb,hs⟩:=hm.blk (by simp);exact ⟨⟨D,g,gB,he,hD,hK,cur,hb,hs⟩,hf⟩)
 have HRR:Hid (∀ W,Fr w W->Calls Tryz.prog 16 #[.slice A cs.length c,.slice B ms.length d,.bool true] W λe w'=>(∃ (D:Option Addr) (g:Nat),e=.returned (.agg #[.int .i64 6,.int .i64 0,.string ⟨#[]⟩,.slice none 0 0,.slice D 3 g])/\InV w' (Lo w'.heap.size) (Pt.respV cs ms true) (.agg #[.int .i64 6,.int .i64 0,.string ⟨#[]⟩,.slice none 0 0,.slice D 3 g]))/\Fr W w'):=LH (λW hW=>rresp_is cs A c ms B d true W (hc.keep hW) (hmk W hW) hcl hml (Pt.bulkC_nm h1));clear hc hm h1 h2 hs hT hP hcl hml hmk hpa hra;go_enter Tryz.func5,Tryz.ntmps5
 go_upto_region 3 with (first
  | (go_at_call 9;have hq:=HP1.out;refine (awake25 _ (HT.out.keep hq)).mono ?_;rintro e w9 ⟨rfl,hf⟩;have HF9:=LH (hq.trans hf);clear hf hq)
  | (go_at_call 9;refine (awake25 _ HT.out).mono ?_;rintro e w0 ⟨rfl,hf⟩;have HP0:=LH hf;clear hf)
  | (go_at_call 13;refine (HFEW.out _ HP0.out).mono ?_;rintro e w1 ⟨⟨bb,rfl⟩,hf⟩;have HP1:=LH (HP0.out.trans hf);clear hf;cases bb))
 ·go_wp2_with (go_at_call 9;have hq:=HP1.out;refine (awake25 _ (HT.out.keep hq)).mono ?_;rintro e w9 ⟨rfl,hf⟩;have HF9:=LH (hq.trans hf);clear hf hq)
  go_ret
  exact ⟨rfl,HF9.out⟩
 go_upto_region 4 with (go_at_call 16;refine (HRR.out _ HP1.out).mono ?_;rintro e w2 ⟨⟨D1,g1,rfl,hi⟩,hf⟩;have HI1:=LH hi;have HP2:=LH (HP1.out.trans hf);clear hi hf)
 have hb7:=Blk.made w2 #[.int .i64 6,.int .i64 0,.string ⟨#[]⟩,.slice none 0 0,(.slice D1 3 g1)] 29;have hf7:Fr w2 (w2.alloc (.cells #[.int .i64 6,.int .i64 0,.string ⟨#[]⟩,.slice none 0 0,(.slice D1 3 g1)] 29)):=(FR w2).alloc _;have hi7:=HI1.out.go hf7;have hw7:=HP2.out.trans hf7;generalize (w2.alloc (.cells #[.int .i64 6,.int .i64 0,.string ⟨#[]⟩,.slice none 0 0,(.slice D1 3 g1)] 29))=W7 at hb7 hf7 hi7 hw7 ⊢;clear hf7;generalize w2.heap.size=X7 at hb7 ⊢;have HB7:=LH hb7;have HI7:=LH hi7;have HW7:=LH hw7;have hX7:=hb7.lt;clear hb7 hi7 hw7;go_upto_region 5 with (go_at_call 19;refine (HER.out _ HW7.out).mono ?_;rintro e w3 ⟨⟨D2,g2,gB,rfl,rfl,hgB,cur,hbk,hsz⟩,hf⟩;have HBB:=LH hbk;have HSZ:=LH hsz;have HF3:=LH hf;clear hbk hsz hf)
 have hb8:=Blk.made w3 #[.int .i64 6,.int .i64 0,.string ⟨#[]⟩,.slice none 0 0,(.slice (some ⟨gB,0,none⟩) 3 g2)] 29;have hf8:Fr w3 (w3.alloc (.cells #[.int .i64 6,.int .i64 0,.string ⟨#[]⟩,.slice none 0 0,(.slice (some ⟨gB,0,none⟩) 3 g2)] 29)):=(FR w3).alloc _;have hk8:=HBB.out.keep hf8;have hw8:=HF3.out.trans hf8;have hgl:=HBB.out.lt;generalize (w3.alloc (.cells #[.int .i64 6,.int .i64 0,.string ⟨#[]⟩,.slice none 0 0,(.slice (some ⟨gB,0,none⟩) 3 g2)] 29))=W8 at hb8 hf8 hk8 hw8 ⊢;clear hf8;generalize w3.heap.size=X8 at hb8 hgl ⊢;have HB8:=LH hb8;have HK8:=LH hk8;have HW8:=LH hw8;have hX8:=hb8.lt;clear hb8 hk8 hw8;go_upto_region 6 with (go_at_call 7;refine (HPA.out _ (HT.out.keep (HW7.out.trans HW8.out))).mono ?_;rintro e w4 ⟨⟨A1,a1,A2,a2,A3,a3,p0,p1,p2,pE,p3,p4,pF,p5,p6,Z,rfl,hZ,hZ2,hs1,hs2,hs3⟩,hf⟩;have HR2:=LH hs2;have HR3:=LH hs3;have HF4:=LH hf;clear hs1 hs2 hs3 hf)
 obtain ⟨W9,hW⟩:∃ W,W=((w4.alloc (.cells #[.slice A1 ul.length a1,.slice A2 cl.length a2,.slice A3 ml.length a3,.bool hb] 26)).alloc (.cells #[.int .i64 p0,.int .i64 p1,.string p2,.slice pE p3 p4,.slice pF p5 p6] 29)):=⟨_,rfl⟩;have hkk:Fr w4 W9:=by rw [hW];exact ((FR w4).alloc _).alloc _
 have hb1:Blk W9 w4.heap.size #[.slice A1 ul.length a1,.slice A2 cl.length a2,.slice A3 ml.length a3,.bool hb] 26:=by rw [hW];exact (Blk.made w4 _ _).keep ((FR _).alloc _)
 have hb2:Blk W9 (w4.heap.size+1) #[.int .i64 p0,.int .i64 p1,.string p2,.slice pE p3 p4,.slice pF p5 p6] 29:=by rw [hW];exact boxz (Blk.made (w4.alloc _) _ _)
 rw [<- hW];clear hW
 -- the blocks that will be written: of the calls, of the created ids
 obtain ⟨G2,hG2n,hG2a,hG2b,hG2⟩:∃ G2,(¬ 0<cl.length->G2=w4.heap.size+1)/\(W8.heap.size<=G2/\G2≠w4.heap.size)/\G2<w4.heap.size+2/\(0<cl.length->A2=some ⟨G2,0,none⟩ /\ ∃ cur,Blk W9 G2 cur 50/\cl.length*7<=cur.size):=by
  by_cases h0:0<cl.length
  ·obtain ⟨g,cur,hA,hK,hk,hs⟩:=HR2.out.blk h0;have:=hk.lt;exact ⟨g,λh=>absurd h0 h,⟨by omega,by omega⟩,by omega,λ_=>⟨hA,cur,hk.keep hkk,hs⟩⟩
  ·have:=HF4.out.size;exact ⟨w4.heap.size+1,λ_=>rfl,⟨by omega,by omega⟩,by omega,λh=>absurd h h0⟩
 obtain ⟨G3,hG3n,hG3a,hG3b,hG3⟩:∃ G3,(0<ml.length->G3<w4.heap.size)/\(W8.heap.size<=G3/\G3≠w4.heap.size)/\G3<w4.heap.size+2/\(0<ml.length->A3=some ⟨G3,0,none⟩ /\ ∃ cur,Blk W9 G3 cur 44/\ml.length*6<=cur.size):=by
  by_cases h0:0<ml.length
  ·obtain ⟨g,cur,hA,hK,hk,hs⟩:=HR3.out.blk h0;have:=hk.lt;exact ⟨g,λ_=>this,⟨by omega,by omega⟩,by omega,λ_=>⟨hA,cur,hk.keep hkk,hs⟩⟩
  ·have:=HF4.out.size;exact ⟨w4.heap.size+1,λh=>absurd h h0,⟨by omega,by omega⟩,by omega,λh=>absurd h h0⟩
 have hneq:0<cl.length->0<ml.length->G2≠G3:=λh0 h1 e=>by
  obtain ⟨_,cur,hk,_⟩:=hG2 h0;obtain ⟨_,cur2,hk2,_⟩:=hG3 h1;rw [e] at hk;have:=hk.symm.trans hk2;injection this with this;injection this with _ ht _;exact absurd ht (by decide)
 have hng:¬ 0<cl.length->0<ml.length->G3≠G2:=λh0 h1 e=>by
  have e2:=hG2n h0;have e3:=hG3n h1;omega
 have HNG:=LH hng;clear hng hG2n hG3n;have hs9:w4.heap.size+2<=W9.heap.size:=hb2.lt;have hw9:=HF4.out.trans hkk;have hs84:=HF4.out.size;clear hb2 HR2 HR3;generalize w4.heap.size=X9 at hb1 hG2a hG2b hG3a hG3b hs9 hs84 ⊢;have HB9:=LH hb1;have HG2:=LH hG2;have HG3:=LH hG3;have HNE:=LH hneq;have HW9:=LH hw9;clear hb1 hG2 hG3 hneq hw9 hkk HF4;go_upto_region 7 with (go_at_call 7;refine (HPA.out _ (HT.out.keep ((HW7.out.trans HW8.out).trans HW9.out))).mono ?_;rintro e w5 ⟨⟨B1,b1,B2,b2,B3,b3,q0,q1,q2,qE,q3,q4,qF,q5,q6,Y,rfl,hY,hY2,hs1,hs2,hs3⟩,hf⟩;have HQ1:=LH hs1;have HQ2:=LH hs2;have HQ3:=LH hs3;have HF5:=LH hf;clear hs1 hs2 hs3 hf)
 obtain ⟨WA,hW⟩:∃ W,W=((w5.alloc (.cells #[.slice B1 ul.length b1,.slice B2 cl.length b2,.slice B3 ml.length b3,.bool hb] 26)).alloc (.cells #[.int .i64 q0,.int .i64 q1,.string q2,.slice qE q3 q4,.slice qF q5 q6] 29)):=⟨_,rfl⟩;have hkk:Fr w5 WA:=by rw [hW];exact ((FR w5).alloc _).alloc _
 have hb1:Blk WA w5.heap.size #[.slice B1 ul.length b1,.slice B2 cl.length b2,.slice B3 ml.length b3,.bool hb] 26:=by rw [hW];exact (Blk.made w5 _ _).keep ((FR _).alloc _)
 rw [<- hW];clear hW;have hq1:=HQ1.out.keep hkk;have hq2:=HQ2.out.keep hkk;have hq3:=HQ3.out.keep hkk;have hwa:=HF5.out.trans hkk;have hs5:=HF5.out.size;have hsA:=hb1.lt;clear hkk HF5 HQ1 HQ2 HQ3;generalize w5.heap.size=X11 at hb1 hY2 hs5 hsA ⊢;have HBA:=LH hb1;have HQ1:=LH hq1;have HQ2:=LH hq2;have HQ3:=LH hq3;have HWA:=LH hwa;clear hb1 hq1 hq2 hq3 hwa
 -- the first loop: the members of the response
 have HKA:Hid (Blk WA gB cur 44):=LH ((HK8.out.keep HW9.out).keep HWA.out);have HB8A:=LH ((HB8.out.keep HW9.out).keep HWA.out);go_upto_region 8 with fail
 go_loopw [13] (λj wr=>∃ (i:Nat),i<=3/\j=.int .i64 i/\Hid (FrX gB WA wr)/\Hid (∃ cur,Blk wr gB cur 44/\3*6<=cur.size)) (λj _=>3 - (intOf j).toNat)
 case atStart=>exact ⟨0,by omega,rfl,LH (FrX.refl gB WA),LH ⟨cur,HKA.out,HSZ.out⟩⟩
 case round=>
  obtain ⟨i,hi,rfl,hX,hBk⟩:=hrel;obtain ⟨⟨y0,y1,y2,y3,y4⟩,_⟩:=box5 (HB8A.out.frx hX.out (show X8≠gB by omega));by_cases hlt:i<3
  ·have hlt':(i:Int)<3:=by omega
   obtain ⟨cur2,hk,hz⟩:=hBk.out;have hcell:∃ u,wr.cell? ⟨gB,i*6,none⟩=some u:=⟨_,(hk.cell (i*6)).trans (Array.getElem?_eq_getElem (by omega))⟩;obtain ⟨u,hu⟩:=hcell;have hfz:=hk.free (i*6);have HK:=LH hk;have HZ:=LH hz;clear hk hz;go_wp2_with fail
   exact ⟨⟨i+1,by omega,by go_num,LH (FrX.trans hX.out ((FrX.refl gB wr).setCell (p:=⟨gB,i*6,none⟩) rfl _)),LH ⟨_,HK.out.set (i*6) _,by simpa using HZ.out⟩⟩,by simp [intOf];omega⟩
  ·obtain rfl:i=3:=by omega
   go_upto_region 12 with fail
   clear y0 y1 y2 y3 y4 hi hlt hBk;obtain ⟨WB,hq⟩:∃ W,W=wr:=⟨wr,rfl⟩;subst hq;have HXB:=LH hX.out;clear hX
   -- the second loop: the calls
   have HB9B:=LH ((HB9.out.keep HWA.out).frx HXB.out (show X9≠gB by omega));have HG2B:Hid (0<cl.length->A2=some ⟨G2,0,none⟩ /\ ∃ cur,Blk WB G2 cur 50/\cl.length*7<=cur.size):=LH (λh=>by
    obtain ⟨h1,cur,h2,h3⟩:=HG2.out h;exact ⟨h1,cur,(h2.keep HWA.out).frx HXB.out (by omega),h3⟩)
   have HG3B:Hid (0<ml.length->A3=some ⟨G3,0,none⟩ /\ ∃ cur,Blk WB G3 cur 44/\ml.length*6<=cur.size):=LH (λh=>by
    obtain ⟨h1,cur,h2,h3⟩:=HG3.out h;exact ⟨h1,cur,(h2.keep HWA.out).frx HXB.out (by omega),h3⟩)
   go_loopw [14] (λj wr=>∃ (i:Nat),i<=cl.length/\j=.int .i64 i/\Hid (FrX G2 WB wr)/\Hid (i<cl.length->A2=some ⟨G2,0,none⟩ /\ ∃ cur,Blk wr G2 cur 50/\cl.length*7<=cur.size)) (λj _=>cl.length - (intOf j).toNat)
   case atStart=>exact ⟨0,by omega,rfl,LH (FrX.refl G2 WB),HG2B⟩
   case round=>
    obtain ⟨i,hi,rfl,hX,hBk⟩:=hrel;obtain ⟨⟨x0,x1,x2,x3⟩,_⟩:=box4r (HB9B.out.frx hX.out (show X9≠G2 by omega));by_cases hlt:i<cl.length
    ·have hlt':(i:Int)<(cl.length:Int):=by omega
     obtain ⟨rfl,cur2,hk,hz⟩:=hBk.out hlt;have hcell:∃ u,wr.cell? ⟨G2,i*7,none⟩=some u:=⟨_,(hk.cell (i*7)).trans (Array.getElem?_eq_getElem (by omega))⟩;obtain ⟨u,hu⟩:=hcell;have hfz:=hk.free (i*7);have HK:=LH hk;have HZ:=LH hz;clear hk hz;go_wp2_with fail
     exact ⟨⟨i+1,by omega,by go_num,LH (FrX.trans hX.out ((FrX.refl G2 wr).setCell (p:=⟨G2,i*7,none⟩) rfl _)),LH (λ_=>⟨by first | trivial | rfl,_,HK.out.set (i*7) _,by simpa using HZ.out⟩)⟩,by simp [intOf];omega⟩
    ·obtain rfl:i=cl.length:=by omega
     go_upto_region 16 with fail
     clear x0 x1 x2 x3 hi hlt hBk;obtain ⟨WC,hq⟩:∃ W,W=wr:=⟨wr,rfl⟩;subst hq;have HXC:=LH hX.out;clear hX;have HB9C:=LH (HB9B.out.frx HXC.out (show X9≠G2 by omega));have HG3C:Hid (0<ml.length->A3=some ⟨G3,0,none⟩ /\ ∃ cur,Blk WC G3 cur 44/\ml.length*6<=cur.size):=LH (λh=>by
      obtain ⟨h1,cur,h2,h3⟩:=HG3B.out h;by_cases h0:0<cl.length
      ·exact ⟨h1,cur,h2.frx HXC.out (λe=>HNE.out h0 h e.symm),h3⟩
      ·by_cases e:G3=G2
       ·exact absurd e (HNG.out h0 h)
       ·exact ⟨h1,cur,h2.frx HXC.out e,h3⟩)
     go_loopw [15] (λj wr=>∃ (i:Nat),i<=ml.length/\j=.int .i64 i/\Hid (FrX G3 WC wr)/\Hid (i<ml.length->A3=some ⟨G3,0,none⟩ /\ ∃ cur,Blk wr G3 cur 44/\ml.length*6<=cur.size)) (λj _=>ml.length - (intOf j).toNat)
     case atStart=>exact ⟨0,by omega,rfl,LH (FrX.refl G3 WC),HG3C⟩
     case round=>
      obtain ⟨i,hi,rfl,hX,hBk⟩:=hrel;obtain ⟨⟨x0,x1,x2,x3⟩,_⟩:=box4r (HB9C.out.frx hX.out (show X9≠G3 by omega));by_cases hlt:i<ml.length
      ·have hlt':(i:Int)<(ml.length:Int):=by omega
       obtain ⟨rfl,cur2,hk,hz⟩:=hBk.out hlt;have hcell:∃ u,wr.cell? ⟨G3,i*6,none⟩=some u:=⟨_,(hk.cell (i*6)).trans (Array.getElem?_eq_getElem (by omega))⟩;obtain ⟨u,hu⟩:=hcell;have hfz:=hk.free (i*6);have HK:=LH hk;have HZ:=LH hz;clear hk hz;go_wp2_with fail
       exact ⟨⟨i+1,by omega,by go_num,LH (FrX.trans hX.out ((FrX.refl G3 wr).setCell (p:=⟨G3,i*6,none⟩) rfl _)),LH (λ_=>⟨by first | trivial | rfl,_,HK.out.set (i*6) _,by simpa using HZ.out⟩)⟩,by simp [intOf];omega⟩
      ·obtain rfl:i=ml.length:=by omega
       go_upto_region 19 with fail
       clear x0 x1 x2 x3 hi hlt hBk;obtain ⟨WD,hq⟩:∃ W,W=wr:=⟨wr,rfl⟩;subst hq;have HXD:=LH hX.out;clear hX;have hsWA:=HWA.out.size;have hs78:=HW8.out.size;have hs89:=HW9.out.size;have hsB:=HXB.out.size;have hsC:=HXC.out.size;have HFD:Hid (Fr W7 WD):=LH (Fr.thenX (Fr.thenX (Fr.thenX ((HW8.out.trans HW9.out).trans HWA.out) hgB (by omega) HXB.out) (by omega) (by omega) HXC.out) (by omega) (by omega) HXD.out);have HBD:Hid (Blk WD X11 #[.slice B1 ul.length b1,.slice B2 cl.length b2,.slice B3 ml.length b3,.bool hb] 26):=LH (((HBA.out.frx HXB.out (by omega)).frx HXC.out (by omega)).frx HXD.out (by omega));have HQ1D:Hid (Ssl WD Y (.slice B1 ul.length b1) ul):=LH (((HQ1.out.frxB (by omega) HXB.out).frxB (by omega) HXC.out).frxB (by omega) HXD.out);have HQ2D:Hid (CsB WD (Be W9.heap.size Y) Y (.slice B2 cl.length b2) cl):=LH (((HQ2.out.frx (λb hb=>by have:=hb.1;omega) (by omega) HXB.out).frx (λb hb=>by have:=hb.1;omega) (by omega) HXC.out).frx (λb hb=>by have:=hb.1;omega) (by omega) HXD.out);have HQ3D:Hid (MsB WD 0 Y (.slice B3 ml.length b3) ml):=LH (((HQ3.out.frx (Nat.zero_le _) (by omega) HXB.out).frx (Nat.zero_le _) (by omega) HXC.out).frx (Nat.zero_le _) (by omega) HXD.out);have HWD:=LH (HW7.out.trans HFD.out);have HB7D:=LH (HB7.out.keep HFD.out);have HI7D:=LH (HI7.out.go HFD.out);clear HK8 HKA HB8 HB8A HB9 HB9B HB9C HG2 HG3 HG2B HG3B HG3C HNE HXB HXC HXD HQ1 HQ2 HQ3 HBA HW8 HW9 HWA HBB HSZ HER HPA HFEW;go_upto_region 20 with (go_at_call 8;refine (HRA.out _ (HP.out.keep HWD.out)).mono ?_;rintro e w6 ⟨⟨C1,c1,C2,c2,C3,c3,r0,r1,r2,rE,r3,r4,rF,r5,r6,rfl,hm1,hm2,hm3⟩,hf⟩;have HM1:=LH hm1;have HM2:=LH hm2;have HM3:=LH hm3;have HF6:=LH hf;clear hm1 hm2 hm3 hf)
       obtain ⟨W9,hW⟩:∃ W,W=((w6.alloc (.cells #[.slice C1 ul.length c1,.slice C2 cl.length c2,.slice C3 ml.length c3,.bool hb] 32)).alloc (.cells #[.int .i64 r0,.int .i64 r1,.string r2,.slice rE r3 r4,.slice rF r5 r6] 29)):=⟨_,rfl⟩;have hkk:Fr w6 W9:=by rw [hW];exact ((FR w6).alloc _).alloc _
       have hb1:Blk W9 w6.heap.size #[.slice C1 ul.length c1,.slice C2 cl.length c2,.slice C3 ml.length c3,.bool hb] 32:=by rw [hW];exact (Blk.made w6 _ _).keep ((FR _).alloc _)
       rw [<- hW];clear hW;have HKK:=LH hkk;have HF9:=LH (HF6.out.trans hkk);have HW9:=LH (HWD.out.trans HF9.out);obtain ⟨X16,hX16⟩:∃ X,w6.heap.size=X:=⟨_,rfl⟩;rw [hX16] at hb1 ⊢;have HB16:=LH hb1;clear hb1 hkk hX16;have HSX:Hid (∀ W,Fr W9 W->(W.cell? ⟨X7,0,none⟩=some (.int .i64 6)/\W.cell? ⟨X7,0+1,none⟩=some (.int .i64 0)/\W.cell? ⟨X7,0+2,none⟩=some (.string ⟨#[]⟩)/\W.cell? ⟨X7,0+3,none⟩=some (.slice none 0 0)/\W.cell? ⟨X7,0+4,none⟩=some (.slice D1 3 g1))/\(W.cell? ⟨X11,0,none⟩=some (.slice B1 ul.length b1)/\W.cell? ⟨X11,0+1,none⟩=some (.slice B2 cl.length b2)/\W.cell? ⟨X11,0+2,none⟩=some (.slice B3 ml.length b3)/\W.cell? ⟨X11,0+3,none⟩=some (.bool hb))/\(W.cell? ⟨X16,0,none⟩=some (.slice C1 ul.length c1)/\W.cell? ⟨X16,0+1,none⟩=some (.slice C2 cl.length c2)/\W.cell? ⟨X16,0+2,none⟩=some (.slice C3 ml.length c3)/\W.cell? ⟨X16,0+3,none⟩=some (.bool hb))):=LH (λW hW=>by
        have a:=(HB7D.out.keep HF9.out).keep hW;have b:=(HBD.out.keep HF9.out).keep hW;have c:=HB16.out.keep hW;exact ⟨⟨a.cell 0,a.cell 1,a.cell 2,a.cell 3,a.cell 4⟩,⟨b.cell 0,b.cell 1,b.cell 2,b.cell 3⟩,⟨c.cell 0,c.cell 1,c.cell 2,c.cell 3⟩⟩)
       have HSA:Hid (∀ W (D5:Option Addr) (g5:Nat),Fr W9 W->InV W (Lo W.heap.size) (Pt.respV cs ms true) (.agg #[.int .i64 6,.int .i64 0,.string ⟨#[]⟩,.slice none 0 0,.slice D5 3 g5])->Calls Tryz.prog 12 #[.agg #[.int .i64 6,.int .i64 0,.string ⟨#[]⟩,.slice none 0 0,.slice D5 3 g5],.agg #[.int .i64 6,.int .i64 0,.string ⟨#[]⟩,.slice none 0 0,.slice D1 3 g1]] W λe w'=>e=.returned (.bool true)/\Fr W w'):=LH (λW D5 g5 hW hi=>(same_is (Pt.respV cs ms true) (Pt.respV cs ms true) _ _).call true (by simp) rfl rfl hi (HI7D.out.go (HF9.out.trans hW)));have HSM:Hid (∀ W,Fr W9 W->Calls Tryz.prog 10 #[.agg #[.slice B1 ul.length b1,.slice B2 cl.length b2,.slice B3 ml.length b3,.bool hb],.agg #[.slice C1 ul.length c1,.slice C2 cl.length c2,.slice C3 ml.length c3,.bool hb]] W λe w'=>e=.returned (.bool true)/\Fr W w'):=LH (λW hW=>by
        have hD:=HF9.out.trans hW;have h6:=HKK.out.trans hW;obtain ⟨_,_,e1,p1⟩:=(HQ1D.out.keep hD).shows;obtain ⟨_,_,e2,p2⟩:=(HQ2D.out.keep hD).shows;obtain ⟨_,_,e3,p3⟩:=msb_shows (HQ3D.out.keep hD) (lT l3 (by decide));injection e1 with e1 _ _;injection e2 with e2 _ _;injection e3 with e3 _ _;subst e1;subst e2;subst e3;exact same25 ul cl ml hb _ b1 _ b2 _ b3 C1 c1 C2 c2 C3 c3 W p1 (HM1.out.keep h6) p2 (HM2.out.keep h6) p3 ((HM3.out.keep (lR _) h6).map (λb hb=>lL hb h6.size) (λ_ _ _=>rfl)) (lT l1 (by decide)) (lT l2 (by decide)) (lT l3 (by decide)))
       go_upto_region 20 with fail
       refine wp_region_held_drew (S:=(λW=>(W.cell? ⟨X7,0,none⟩=some (.int .i64 6)/\W.cell? ⟨X7,0+1,none⟩=some (.int .i64 0)/\W.cell? ⟨X7,0+2,none⟩=some (.string ⟨#[]⟩)/\W.cell? ⟨X7,0+3,none⟩=some (.slice none 0 0)/\W.cell? ⟨X7,0+4,none⟩=some (.slice D1 3 g1))/\(W.cell? ⟨X11,0,none⟩=some (.slice B1 ul.length b1)/\W.cell? ⟨X11,0+1,none⟩=some (.slice B2 cl.length b2)/\W.cell? ⟨X11,0+2,none⟩=some (.slice B3 ml.length b3)/\W.cell? ⟨X11,0+3,none⟩=some (.bool hb))/\(W.cell? ⟨X16,0,none⟩=some (.slice C1 ul.length c1)/\W.cell? ⟨X16,0+1,none⟩=some (.slice C2 cl.length c2)/\W.cell? ⟨X16,0+2,none⟩=some (.slice C3 ml.length c3)/\W.cell? ⟨X16,0+3,none⟩=some (.bool hb)))) (by kernel_rfl) ?_ (λhHeld=>?_)
       ·exact HSX.out _ (FR W9).drew
       refine tq 0 rfl hHeld ?_;(try simp only [Act.put,fl]);refine tq 1 rfl hHeld ?_;(try simp only [Act.put,fl]);refine tq 3 rfl hHeld ?_;(try simp only [Act.put,fl]);refine rq 2 rfl (λK hK=>?_);go_simp
       (go_at_call 16;refine (HRR.out _ (HW9.out.trans (FR W9).drew)).mono ?_;rintro e w2 ⟨⟨D5,g5,rfl,hi⟩,hf⟩;have HF2:Hid (Fr W9 w2):=LH ((FR W9).drew.trans hf);have HI5:=LH hi;clear hi hf)
       try (refine hK.out _ _ ?_ (λhHeld2=>?_))
       ·exact HSX.out _ HF2.out
       clear hK K;(try simp only [Act.put,fl]);refine rq 4 rfl (λK hK=>?_);go_simp
       (go_at_call 12;refine (HSA.out _ D5 g5 HF2.out HI5.out).mono ?_;rintro e w3 ⟨rfl,hf⟩;have HF3:Hid (Fr W9 w3):=LH (HF2.out.trans hf);clear hf)
       try (refine hK.out _ _ ?_ (λhHeld3=>?_))
       ·exact HSX.out _ HF3.out
       clear hK K;(try simp only [Act.put,fl]);refine tq 5 rfl hHeld3 ?_;(try simp only [Act.put,fl]);refine tq 6 rfl hHeld3 ?_;(try simp only [Act.put,fl]);refine tq 8 rfl hHeld3 ?_;(try simp only [Act.put,fl]);refine rq 7 rfl (λK hK=>?_);go_simp
       (go_at_call 11;refine (req_is _ _ _ _ _ _ _ _ _ _ _).mono ?_;rintro e w4 ⟨rfl,hf⟩;have HF4:Hid (Fr W9 w4):=LH (HF3.out.trans hf);clear hf)
       try (refine hK.out _ _ ?_ (λhHeld4=>?_))
       ·exact HSX.out _ HF4.out
       clear hK K;(try simp only [Act.put,fl]);refine rq 9 rfl (λK hK=>?_);go_simp
       (go_at_call 10;refine (HSM.out _ HF4.out).mono ?_;rintro e w5 ⟨rfl,hf⟩;have HF5:Hid (Fr W9 w5):=LH (HF4.out.trans hf);clear hf)
       try (refine hK.out _ _ ?_ (λhHeld5=>?_))
       ·exact HSX.out _ HF5.out
       clear hK K;(try simp only [Act.put,fl]);refine tq 10 rfl hHeld5 ?_;(try simp only [Act.put,fl]);refine tq 11 rfl hHeld5 ?_;(try simp only [Act.put,fl]);refine wpAnyH_done (by kernel_rfl) ?_ _;go_wp2_with fail
       go_ret
       exact ⟨rfl,HW9.out.trans HF5.out⟩
end Go.Proofs.YtockgemmkjdnkaaGreatDoor
