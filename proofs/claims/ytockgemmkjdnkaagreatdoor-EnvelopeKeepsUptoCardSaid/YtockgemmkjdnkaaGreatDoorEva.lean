/- Chapter 25: the document's Add, Text, Error; envelope's text, object, Error. -/
import Derived.Test.YtockgemmkjdnkaaGreatDoorTra
import Derived.Test.YtockgemmkjdnkaaGreatDoorRl
set_option maxRecDepth 100000
set_option maxHeartbeats 2000000
set_option linter.unusedVariables false
set_option linter.unusedSimpArgs false
namespace Go.Proofs.YtockgemmkjdnkaaGreatDoor
open Go.RowKit

theorem radd_ms (v x:JV) (B:Option Addr) (d:Nat) (B':Option Addr) (d':Nat) (C:Option Addr) (f:Nat) (C':Option Addr) (f':Nat) (s:List UInt8) (w:World) (Z:Nat) (hZ:Z<=w.heap.size) (hv:InV w (Lo Z) v (vA v B d B' d')) (hx:InV w (Lo Z) x (vA x C f C' f')) (hl:v.ms.length*96<=140737488300000) (hs:s.length<=140737488355328):
  Calls Tryz.prog 14 #[.agg #[.int .i64 v.kd,.int .i64 v.nm,.string ⟨v.tx.toArray⟩,.slice B v.ls.length d,.slice B' v.ms.length d'],.string ⟨s.toArray⟩,.agg #[.int .i64 x.kd,.int .i64 x.nm,.string ⟨x.tx.toArray⟩,.slice C x.ls.length f,.slice C' x.ms.length f']] w λe w'=>∃ (D:Option Addr) (g K:Nat),e=.returned (.agg #[.int .i64 6,.int .i64 0,.string ⟨#[]⟩,.slice none 0 0,(.slice D (v.ms++[(s,x)]).length g)])/\w.heap.size<K/\MsB w' Z K (.slice D (v.ms++[(s,x)]).length g) (v.ms++[(s,x)])/\Fr w w':=by
 obtain ⟨A,c,A',c',he,_,hms⟩:=hv.open_;have hA:B'=A':=by obtain ⟨_,_,_,_,e4⟩:=five he;injection e4
 subst hA;have HMS:Hid (∀ W,Fr w W->MsC W (Lo Z) B' v.ms):=λW hW=>hms.keep hZ hW
 have hmsl:(v.ms.length:Int)<=140737488355328:=by omega
 have HX:=LH hx;have hF3:Fr w (((w.alloc (.cells #[.int .i64 v.kd,.int .i64 v.nm,.string ⟨v.tx.toArray⟩,.slice B v.ls.length d,.slice B' v.ms.length d'] 29)).alloc (.cells #[.int .i64 x.kd,.int .i64 x.nm,.string ⟨x.tx.toArray⟩,.slice C x.ls.length f,.slice C' x.ms.length f'] 29)).alloc (.cells #[.int .i64 0,.int .i64 0,.string ⟨#[]⟩,.slice none 0 0,.slice none 0 0] 29)):=(((FR w).alloc _).alloc _).alloc _;have hB3:Blk (((w.alloc (.cells #[.int .i64 v.kd,.int .i64 v.nm,.string ⟨v.tx.toArray⟩,.slice B v.ls.length d,.slice B' v.ms.length d'] 29)).alloc (.cells #[.int .i64 x.kd,.int .i64 x.nm,.string ⟨x.tx.toArray⟩,.slice C x.ls.length f,.slice C' x.ms.length f'] 29)).alloc (.cells #[.int .i64 0,.int .i64 0,.string ⟨#[]⟩,.slice none 0 0,.slice none 0 0] 29)) w.heap.size #[.int .i64 v.kd,.int .i64 v.nm,.string ⟨v.tx.toArray⟩,.slice B v.ls.length d,.slice B' v.ms.length d'] 29:=((Blk.made w _ _).keep ((FR _).alloc _)).keep ((FR _).alloc _);have hX3:Blk (((w.alloc (.cells #[.int .i64 v.kd,.int .i64 v.nm,.string ⟨v.tx.toArray⟩,.slice B v.ls.length d,.slice B' v.ms.length d'] 29)).alloc (.cells #[.int .i64 x.kd,.int .i64 x.nm,.string ⟨x.tx.toArray⟩,.slice C x.ls.length f,.slice C' x.ms.length f'] 29)).alloc (.cells #[.int .i64 0,.int .i64 0,.string ⟨#[]⟩,.slice none 0 0,.slice none 0 0] 29)) (w.heap.size+1) #[.int .i64 x.kd,.int .i64 x.nm,.string ⟨x.tx.toArray⟩,.slice C x.ls.length f,.slice C' x.ms.length f'] 29:=(boxz (Blk.made (w.alloc _) _ _)).keep ((FR _).alloc _);have hZ3:Blk (((w.alloc (.cells #[.int .i64 v.kd,.int .i64 v.nm,.string ⟨v.tx.toArray⟩,.slice B v.ls.length d,.slice B' v.ms.length d'] 29)).alloc (.cells #[.int .i64 x.kd,.int .i64 x.nm,.string ⟨x.tx.toArray⟩,.slice C x.ls.length f,.slice C' x.ms.length f'] 29)).alloc (.cells #[.int .i64 0,.int .i64 0,.string ⟨#[]⟩,.slice none 0 0,.slice none 0 0] 29)) (w.heap.size+1+1) #[.int .i64 0,.int .i64 0,.string ⟨#[]⟩,.slice none 0 0,.slice none 0 0] 29:=boxy (Blk.made ((w.alloc _).alloc _) _ _);have hk0:(0+v.ms.length)*96<=140737488355328:=by omega
 have hk97:(v.ms.length+1)*96<=140737488355328:=by omega
 clear hv hx he hms;go_enter Tryz.func14,Tryz.ntmps14
 go_upto_region 1 with fail
 generalize (((w.alloc (.cells #[.int .i64 v.kd,.int .i64 v.nm,.string ⟨v.tx.toArray⟩,.slice B v.ls.length d,.slice B' v.ms.length d'] 29)).alloc (.cells #[.int .i64 x.kd,.int .i64 x.nm,.string ⟨x.tx.toArray⟩,.slice C x.ls.length f,.slice C' x.ms.length f'] 29)).alloc (.cells #[.int .i64 0,.int .i64 0,.string ⟨#[]⟩,.slice none 0 0,.slice none 0 0] 29))=W0 at hF3 hB3 hX3 hZ3 ⊢;have HF3:=LH hF3;have HB3:=LH hB3;have HX3:=LH hX3;have HZ3:=LH hZ3;have hz1:w.heap.size+1+1<W0.heap.size:=hZ3.lt;have hZW:Z<=W0.heap.size:=by omega
 have hG0:Hid (GM Z W0 (W0.alloc (.cells #[.int .i64 6,.int .i64 0,.string ⟨#[]⟩,.slice none 0 0,(.slice none 0 0)] 29)) (.slice none 0 0) []):=⟨MsB.none_ _ ⟨by omega,by simp⟩,Blk.made W0 _ _,(FR W0).alloc _⟩;clear hF3 hB3 hX3 hZ3;go_upto_region 2 with fail
 have hw7:=hG0.out;generalize (W0.alloc (.cells #[.int .i64 6,.int .i64 0,.string ⟨#[]⟩,.slice none 0 0,(.slice none 0 0)] 29))=W7 at hw7 ⊢;obtain ⟨⟨g0,g1,g2,g3,g4⟩,gf0,gf1,gf2,gf3,gf4⟩:=box5 hw7.bx;obtain ⟨⟨v0,v1,v2,v3,v4⟩,_⟩:=box5 (HB3.out.keep hw7.fr);have HG7:=LH hw7;clear hw7 hG0;go_upto_region 3 with (at_builtin;refine wpl_mB rfl (.tmp 10) (.tmp 12) rfl Z (W0.heap.size+1) _ [] rfl HG7.out.vs B' d' v.ms.length v.ms rfl rfl (HMS.out _ (HF3.out.trans HG7.out.fr)) (by simpa using hk0) ?_;intro v4 w4 hv4 hg4 _;obtain ⟨b4,k4,e4⟩:=hv4.is_slice;have e4:v4=.slice b4 v.ms.length k4:=e4;subst e4;have hg5:=HG7.out.app hZW hv4 hg4;have hy4:Blk w4 W0.heap.size _ _:=(hg4.block _ HG7.out.bx.lt (λe=>by cases e)).trans HG7.out.bx;obtain ⟨⟨zz0,zz1,zz2,zz3,zz4⟩,zg0,zg1,zg2,zg3,zg4⟩:=box5 hy4;have HG5:=LH hg5;clear hv4 hg4 hy4 hg5)
 have hg5:GM Z W0 _ (.slice b4 v.ms.length k4) v.ms:=HG5.out;clear HG5 zz0 zz1 zz2 zz3 zz4 zg0 zg1 zg2 zg3 zg4 g0 g1 g2 g3 g4 gf0 gf1 gf2 gf3 gf4 v0 v1 v2 v3 v4;generalize (w4.setCell ⟨W0.heap.size,4,none⟩ (.slice b4 v.ms.length k4))=W8 at hg5 ⊢;obtain ⟨⟨g0,g1,g2,g3,g4⟩,gf0,gf1,gf2,gf3,gf4⟩:=box5 hg5.bx;obtain ⟨⟨x0,x1,x2,x3,x4⟩,_⟩:=box5 (HX3.out.keep hg5.fr);have HU8:Hid (InV W8 (Lo Z) x (vA x C f C' f')):=HX.out.keep hZ (HF3.out.trans hg5.fr);have HG8:=LH hg5;have hne8:∀ k,k<W0.heap.size+1->(Value.slice b4 v.ms.length k4).ownBlock≠some k:=λk hk e=>by have:=(HG8.out.vs.own_lt e).1;omega
 clear hg5;go_wp2_with (at_builtin;refine wpl_mB_lit rfl (.tmp 16) (.tmp 20) rfl Z (W0.heap.size+1) _ v.ms rfl HG8.out.vs s x C f C' f' rfl hs HU8.out rfl (by simp) hk97 ?_;intro v5 w5 hv5 hg5 _;obtain ⟨b5,k5,rfl⟩:=hv5.is_slice2 (n:=1) rfl;have hga:=HG8.out.keep ((FR _).alloc (.cells #[.string ⟨s.toArray⟩,.int .i64 x.kd,.int .i64 x.nm,.string ⟨x.tx.toArray⟩,.slice C x.ls.length f,.slice C' x.ms.length f'] 44));have hg6:=hga.app hZW hv5 hg5;have hy5:Blk w5 W0.heap.size _ _:=(hg5.block _ hga.bx.lt (λe=>hne8 _ (by omega) e.symm)).trans hga.bx;obtain ⟨⟨zz0,zz1,zz2,zz3,zz4⟩,zg0,zg1,zg2,zg3,zg4⟩:=box5 hy5;have hzz:Blk w5 (w.heap.size+1+1) _ _:=HZ3.out.keep (Below.grown hga.fr hg5 hga.fr.size (λk hk=>by have:=(HG8.out.vs.own_lt hk).1;omega):Fr W0 w5);obtain ⟨⟨t0,t1,t2,t3,t4⟩,tf0,tf1,tf2,tf3,tf4⟩:=box5 hzz;have HZ5:=LH hzz;have HG6:=LH hg6;clear hv5 hg5 hga hg6 hy5 hzz)
 refine bodyPost_ret (results_cv (by rfl) rfl _ (w.heap.size+1+1) (by rfl) _ _ _ _ _ (set5 (HZ5.out.other (show (Addr.mk W0.heap.size 4 none).block≠_ by show W0.heap.size≠_;omega) _))) rfl ?_;have hlen:(v.ms++[(s,x)]).length=v.ms.length+1:=by simp
 have hG5:=HG6.out;rw [show (Value.slice b5 (v.ms.length+1) k5)=.slice b5 (v.ms++[(s,x)]).length k5 by rw [hlen]] at hG5 ⊢;have hR:∀ j,(Value.slice b5 (v.ms++[(s,x)]).length k5).ownBlock≠some (Addr.mk (w.heap.size+1+1) j none).block:=λj e=>by
  have:=(hG5.vs.own_lt e).1;have h2:(Addr.mk (w.heap.size+1+1) j none).block=w.heap.size+1+1:=rfl;omega
 have hZR:∀ j,Z<=(Addr.mk (w.heap.size+1+1) j none).block:=λj=>by show Z<=w.heap.size+1+1;omega
 have hm2:=((((hG5.vs.other (hR 0) (hZR 0) (.int .i64 6)).other (hR 1) (hZR 1) (.int .i64 0)).other (hR 2) (hZR 2) (.string ⟨#[]⟩)).other (hR 3) (hZR 3) (.slice none 0 0)).other (hR 4) (hZR 4) (.slice b5 (v.ms++[(s,x)]).length k5);exact ⟨b5,k5,_,rfl,by omega,hm2,(HF3.out.trans hG5.fr).put5 (X:=w.heap.size+1+1) (by omega) _ _ _ _ _⟩
theorem rtxt_is (s:ByteArray) (w:World):Calls Tryz.prog 15 #[.string s] w λe w'=>e=.returned (.agg #[.int .i64 4,.int .i64 0,.string s,.slice none 0 0,.slice none 0 0])/\Fr w w':=by
 go_enter Tryz.func15,Tryz.ntmps15
 go_wp2_with fail
 refine bodyPost_ret (results_cv (by rfl) rfl _ w.heap.size (by rfl) _ _ _ _ _ (Blk.made w _ _)) rfl ?_;exact ⟨rfl,(FR w).alloc _⟩
theorem etxt_is (s:ByteArray) (w:World):Calls Tryz.prog 39 #[.string s] w λe w'=>e=.returned (.agg #[.int .i64 4,.int .i64 0,.string s,.slice none 0 0,.slice none 0 0])/\Fr w w':=by
 go_enter Tryz.func39,Tryz.ntmps39
 go_wp2_with fail
 refine bodyPost_ret (results_cv (by rfl) rfl _ w.heap.size (by rfl) _ _ _ _ _ (Blk.made w _ _)) rfl ?_;exact ⟨rfl,(FR w).alloc _⟩
theorem obj_is (A:Option Addr) (n c:Nat) (w:World):Calls Tryz.prog 40 #[.slice A n c] w λe w'=>e=.returned (.agg #[.int .i64 6,.int .i64 0,.string ⟨#[]⟩,.slice none 0 0,(.slice A n c)])/\Fr w w':=by
 go_enter Tryz.func40,Tryz.ntmps40
 go_wp2_with fail
 refine bodyPost_ret (results_cv (by rfl) rfl _ w.heap.size (by rfl) _ _ _ _ _ (Blk.made w _ _)) rfl ?_;exact ⟨rfl,(FR w).alloc _⟩
/- Chapter 25: Error of the document and of envelope; Problem of the document. -/

def Pt.errV (k:List UInt8):JV:=JV.mapV [([116,121,112,101],JV.textV k)]
theorem txt_in (w:World) (S:Nat->Prop) (k:List UInt8) (hk:k.length<=140737488355328):InV w S (JV.textV k) (.agg #[.int .i64 4,.int .i64 0,.string ⟨k.toArray⟩,.slice none 0 0,.slice none 0 0]):=
 InV.leaf w S 4 0 k none none 0 0 (by decide) (by decide) (by decide) (by decide) hk
/- Chapter 25: Problem of the document. -/

namespace Pt
def prT (k:List UInt8):List UInt8 × JV:=([116,121,112,101],JV.textV ([117,114,110,58,105,101,116,102,58,112,97,114,97,109,115,58,106,109,97,112,58,101,114,114,111,114,58]++k))
def prS:List UInt8 × JV:=([115,116,97,116,117,115],.mk 3 400 [] [] [])
def prL (l:List UInt8):List UInt8 × JV:=([108,105,109,105,116],JV.textV l)
def prM (k l:List UInt8):List (List UInt8 × JV):=if l=[] then [prT k,prS] else [prT k,prS,prL l]
def prV (k l:List UInt8):JV:=JV.mapV (prM k l)
end Pt
theorem MsB.lower {w:World} {Z K K':Nat} {v:Value} {l:List (List UInt8 × JV)} (h:MsB w Z K v l) (hZ:Z<=K') (hle:K'<=K):MsB w Z K' v l:=by
 obtain ⟨h0,xs,h1,h2⟩:=h;exact ⟨⟨hZ,lT hle h0.2⟩,xs,h1.le hle,h2⟩
theorem urn_data (K:ByteArray):(⟨#[117,114,110,58,105,101,116,102,58,112,97,114,97,109,115,58,106,109,97,112,58,101,114,114,111,114,58]⟩++K)=⟨([117,114,110,58,105,101,116,102,58,112,97,114,97,109,115,58,106,109,97,112,58,101,114,114,111,114,58]++K.data.toList).toArray⟩:=by
 apply ByteArray.ext
 simp [ByteArray.data_append]
theorem InV.leafAny {w:World} {S S':Nat->Prop} {u:JV} {x:Value} (h:InV w S u x) (hl:u.ls=[]) (hm:u.ms=[]):InV w S' u x:=by
 obtain ⟨A,c,A',c',hx⟩:=h.shape;obtain ⟨h1,h2,h3,_,_⟩:=h.facts;obtain ⟨k,n,s,l,m⟩:=u;obtain rfl:l=[]:=hl;obtain rfl:m=[]:=hm;rw [hx];exact InV.leaf w S' k n s A A' c c' h1.1 h1.2 h2.1 h2.2 h3
theorem MsB.leaf0 {w:World} {Z K:Nat} {v:Value} {m:List (List UInt8 × JV)} (h:MsB w Z K v m) (hm:∀ p∈m,p.2.ls=[]/\p.2.ms=[]):MsB w 0 K v m:=by
 obtain ⟨h0,xs,h1,h2,h3⟩:=h;exact ⟨⟨Nat.zero_le _,h0.2⟩,xs,h1,h2,λi a b=>⟨(h3 i a b).1,(h3 i a b).2.1,(h3 i a b).2.2.leafAny (hm _ (List.getElem_mem b)).1 (hm _ (List.getElem_mem b)).2⟩⟩
theorem radd_lf (m:List (List UInt8 × JV)) (D:Option Addr) (g G0:Nat) (s:List UInt8) (x:JV) (C:Option Addr) (f:Nat) (C':Option Addr) (f':Nat) (W:World) (hv:MsB W 0 G0 (.slice D m.length g) m) (hx:InV W (Lo W.heap.size) x (vA x C f C' f')) (hl:m.length<=1000) (hs:s.length<=140737488355328) (hlf:∀ p∈m++[(s,x)],p.2.ls=[]/\p.2.ms=[]) (n:Nat) (hn:n=(m++[(s,x)]).length):
  Calls Tryz.prog 14 #[.agg #[.int .i64 6,.int .i64 0,.string ⟨#[]⟩,.slice none 0 0,(.slice D m.length g)],.string ⟨s.toArray⟩,.agg #[.int .i64 x.kd,.int .i64 x.nm,.string ⟨x.tx.toArray⟩,.slice C x.ls.length f,.slice C' x.ms.length f']] W λe w'=>(∃ (D:Option Addr) (g G:Nat),e=.returned (.agg #[.int .i64 6,.int .i64 0,.string ⟨#[]⟩,.slice none 0 0,(.slice D n g)])/\W.heap.size<G/\MsB w' 0 G (.slice D n g) (m++[(s,x)]))/\Fr W w':=by
 have hvv:=(hv.inV (by omega)).more (S':=Lo W.heap.size) (λb hb=>by show b<_;rcases hb with hb | hb <;> omega);have:=radd_ms (JV.mapV m) x none 0 D g C f C' f' s W W.heap.size (lR _) hvv hx (by show m.length*96<=_;omega) hs;refine this.mono ?_;rintro e w' ⟨D2,g2,G2,h1,h2,h3,h4⟩;subst hn;exact ⟨⟨D2,g2,G2,h1,h2,MsB.leaf0 h3 hlf⟩,h4⟩

theorem rproblem_is (K L:ByteArray) (w:World) (hK:K.size<=140737488351232) (hL:L.size<=140737488351232) (n:Nat) (hn:n=if L.data.toList=[] then 2 else 3):
  Calls Tryz.prog 18 #[.string K,.string L] w λe w'=>(∃ (D:Option Addr) (g:Nat),e=.returned (.agg #[.int .i64 6,.int .i64 0,.string ⟨#[]⟩,.slice none 0 0,(.slice D n g)])/\MsB w' 0 w.heap.size (.slice D n g) (Pt.prM K.data.toList L.data.toList)/\InV w' (Lo w'.heap.size) (Pt.prV K.data.toList L.data.toList) (.agg #[.int .i64 6,.int .i64 0,.string ⟨#[]⟩,.slice none 0 0,(.slice D n g)]))/\Fr w w':=by
 have hK':(K.size:Int)<=140737488351232:=by omega
 have hkl:K.data.toList.length=K.size:=by simp
 have hll:L.data.toList.length=L.size:=by simp
 have no1:¬ (9223372036854775807<27+K.size):=by omega
 obtain ⟨U,hU⟩:∃ U:ByteArray,U=(⟨#[117,114,110,58,105,101,116,102,58,112,97,114,97,109,115,58,106,109,97,112,58,101,114,114,111,114,58]⟩++K):=⟨_,rfl⟩;have hU2:U=⟨([117,114,110,58,105,101,116,102,58,112,97,114,97,109,115,58,106,109,97,112,58,101,114,114,111,114,58]++K.data.toList).toArray⟩:=by rw [hU];exact urn_data K
 have HT1:Hid (∀ W,Fr w W->Calls Tryz.prog 14 #[.agg #[.int .i64 0,.int .i64 0,.string ⟨#[]⟩,.slice none 0 0,.slice none 0 0],.string ⟨#[116,121,112,101]⟩,.agg #[.int .i64 4,.int .i64 0,.string U,.slice none 0 0,.slice none 0 0]] W λe w'=>(∃ (D:Option Addr) (g G:Nat),e=.returned (.agg #[.int .i64 6,.int .i64 0,.string ⟨#[]⟩,.slice none 0 0,(.slice D 1 g)])/\W.heap.size<G/\MsB w' 0 G (.slice D 1 g) [Pt.prT K.data.toList])/\Fr W w'):=LH (λW hW=>by
  rw [hU2];refine (radd_ms JV.zeroV (JV.textV ([117,114,110,58,105,101,116,102,58,112,97,114,97,109,115,58,106,109,97,112,58,101,114,114,111,114,58]++K.data.toList)) none 0 none 0 none 0 none 0 [116,121,112,101] W 0 (Nat.zero_le _) (zeroV_in W _) (txt_in W _ _ (by simp;omega)) (by simp [JV.zeroV,JV.ms]) (by simp)).mono ?_;rintro e w' ⟨D,g,G,h1,h2,h3,h4⟩;exact ⟨⟨D,g,G,h1,h2,h3⟩,h4⟩)
 have HT2:Hid (∀ (W:World) (D:Option Addr) (g G0:Nat),MsB W 0 G0 (.slice D 1 g) [Pt.prT K.data.toList]->Calls Tryz.prog 14 #[.agg #[.int .i64 6,.int .i64 0,.string ⟨#[]⟩,.slice none 0 0,(.slice D 1 g)],.string ⟨#[115,116,97,116,117,115]⟩,.agg #[.int .i64 3,.int .i64 400,.string ⟨#[]⟩,.slice none 0 0,.slice none 0 0]] W λe w'=>(∃ (D:Option Addr) (g G:Nat),e=.returned (.agg #[.int .i64 6,.int .i64 0,.string ⟨#[]⟩,.slice none 0 0,(.slice D 2 g)])/\W.heap.size<G/\MsB w' 0 G (.slice D 2 g) [Pt.prT K.data.toList,Pt.prS])/\Fr W w'):=LH (λW D g G0 hv=>
  radd_lf [Pt.prT K.data.toList] D g G0 [115,116,97,116,117,115] (.mk 3 400 [] [] []) none 0 none 0 W hv (InV.leaf W _ 3 400 [] none none 0 0 (by decide) (by decide) (by decide) (by decide) (by simp)) (by simp) (by simp) (λp hp=>by simp [Pt.prT,JV.textV] at hp;rcases hp with rfl | rfl <;> exact ⟨rfl,rfl⟩) 2 rfl)
 have HT3:Hid (∀ (W:World) (D:Option Addr) (g G0:Nat),MsB W 0 G0 (.slice D 2 g) [Pt.prT K.data.toList,Pt.prS]->Calls Tryz.prog 14 #[.agg #[.int .i64 6,.int .i64 0,.string ⟨#[]⟩,.slice none 0 0,(.slice D 2 g)],.string ⟨#[108,105,109,105,116]⟩,.agg #[.int .i64 4,.int .i64 0,.string L,.slice none 0 0,.slice none 0 0]] W λe w'=>(∃ (D:Option Addr) (g G:Nat),e=.returned (.agg #[.int .i64 6,.int .i64 0,.string ⟨#[]⟩,.slice none 0 0,(.slice D 3 g)])/\W.heap.size<G/\MsB w' 0 G (.slice D 3 g) [Pt.prT K.data.toList,Pt.prS,Pt.prL L.data.toList])/\Fr W w'):=LH (λW D g G0 hv=>
  radd_lf [Pt.prT K.data.toList,Pt.prS] D g G0 [108,105,109,105,116] (JV.textV L.data.toList) none 0 none 0 W hv (txt_in W _ _ (by omega)) (by simp) (by simp) (λp hp=>by simp [Pt.prT,Pt.prS,JV.textV] at hp;rcases hp with rfl | rfl | rfl <;> exact ⟨rfl,rfl⟩) 3 rfl)
 have HZ:Hid (Blk (w.alloc (.cells #[.int .i64 0,.int .i64 0,.string ⟨#[]⟩,.slice none 0 0,.slice none 0 0] 29)) w.heap.size #[.int .i64 0,.int .i64 0,.string ⟨#[]⟩,.slice none 0 0,.slice none 0 0] 29):=Blk.made w _ _;have HF0:Hid (Fr w (w.alloc (.cells #[.int .i64 0,.int .i64 0,.string ⟨#[]⟩,.slice none 0 0,.slice none 0 0] 29))):=(FR w).alloc _;obtain ⟨le,hle⟩:∃ b:Bool,L.toList.isEmpty=b:=⟨_,rfl⟩;have hlb:(le=true/\L.data.toList=[])\/(le=false/\L.data.toList≠[]):=by
  rw [<- hle,ByteArray.toList_eq]
  cases L.data.toList <;> simp
 have hsz3:(⟨#[]⟩:ByteArray).size=0:=rfl;clear hkl hll hU2 hsz3;subst hU;go_enter Tryz.func18,Tryz.ntmps18
 go_upto_region 2 with (first
  | (go_at_call 14;have hm:=HG2.out;refine (HT2.out _ D1 e1 G1 HIN1.out).mono ?_;rintro e w3 ⟨⟨D2,e2,G2,rfl,hgg,hin⟩,hf⟩;have HIN2:=LH hin;have HGG:=LH hgg;have HG3:=LH (hm.trans hf);clear hin hf hm)
  | (go_at_call 14;have hm:=HG1.out;refine (HT1.out _ (HF0.out.trans hm)).mono ?_;rintro e w2 ⟨⟨D1,e1,G1,rfl,_,hin⟩,hf⟩;have HIN1:=LH hin;have HG2:=LH (hm.trans hf);clear hin hf hm)
  | (go_at_call 15;refine (rtxt_is _ _).mono ?_;rintro e w1 ⟨rfl,hf⟩;have HG1:=LH hf;clear hf))
 have hf5:=HG3.out.alloc (.cells #[.int .i64 6,.int .i64 0,.string ⟨#[]⟩,.slice none 0 0,(.slice D2 2 e2)] 29);have hb5:=Blk.made w3 #[.int .i64 6,.int .i64 0,.string ⟨#[]⟩,.slice none 0 0,(.slice D2 2 e2)] 29;have hi5:=HIN2.out.keep ((FR w3).alloc (.cells #[.int .i64 6,.int .i64 0,.string ⟨#[]⟩,.slice none 0 0,(.slice D2 2 e2)] 29));have hgw:w.heap.size<G2:=by have:=HGG.out;have h2:=HG2.out.size;have h3:=HZ.out.lt;omega
 have hx5:w.heap.size<w3.heap.size:=lL HZ.out.lt HG3.out.size;generalize (w3.alloc (.cells #[.int .i64 6,.int .i64 0,.string ⟨#[]⟩,.slice none 0 0,(.slice D2 2 e2)] 29))=W5 at hf5 hb5 hi5 ⊢;generalize w3.heap.size=X5 at hb5 hx5 ⊢;have HF5:=LH hf5;have HB5:=LH hb5;have HI5:=LH hi5;obtain ⟨⟨b0,b1,b2,b3,b4⟩,_⟩:=box5 hb5;obtain ⟨⟨z0,z1,z2,z3,z4⟩,zf0,zf1,zf2,zf3,zf4⟩:=box5 (HZ.out.keep hf5);have HZ5:=LH (HZ.out.keep hf5);have nX:¬ w.heap.size=X5:=by omega
 have nX2:¬ X5=w.heap.size:=by omega
 clear hf5 hb5 hi5;rcases hlb with ⟨rfl,hl0⟩ | ⟨rfl,hl0⟩
 ·have HL0:=LH hl0;have HN:=LH hn;clear hl0 hn;go_wp2_with fail
  refine bodyPost_ret (results_cv (by rfl) rfl _ w.heap.size (by rfl) _ _ _ _ _ (set5 HZ5.out)) rfl ?_;have hn2:n=2:=by rw [HN.out,if_pos HL0.out]
  have hv:Pt.prM K.data.toList L.data.toList=[Pt.prT K.data.toList,Pt.prS]:=by unfold Pt.prM;rw [if_pos HL0.out]
  subst hn2;unfold Pt.prV;rw [hv];have hR:∀ j,(Value.slice D2 2 e2).ownBlock≠some (Addr.mk w.heap.size j none).block:=λj e=>by
   have:=(HI5.out.own_lt e).1;have h2:(Addr.mk w.heap.size j none).block=w.heap.size:=rfl;omega
  have hm2:=((((HI5.out.other (hR 0) (Nat.zero_le _) (.int .i64 6)).other (hR 1) (Nat.zero_le _) (.int .i64 0)).other (hR 2) (Nat.zero_le _) (.string ⟨#[]⟩)).other (hR 3) (Nat.zero_le _) (.slice none 0 0)).other (hR 4) (Nat.zero_le _) (.slice D2 2 e2);exact ⟨⟨D2,e2,rfl,hm2.lower (Nat.zero_le _) (Nat.le_of_lt hgw),(hm2.inV (by simp)).more (λb hb=>by show b<_;rcases hb with hb | hb <;> omega)⟩,(HF0.out.trans HF5.out).put5 (X:=w.heap.size) (lR _) _ _ _ _ _⟩
 ·have HL0:=LH hl0;have HN:=LH hn;have HS:Hid (∀ W,Fr W5 W->W.cell? ⟨X5,0,none⟩=some (Value.int .i64 6)/\W.cell? ⟨X5,1,none⟩=some (Value.int .i64 0)/\W.cell? ⟨X5,2,none⟩=some (Value.string ⟨#[]⟩)/\W.cell? ⟨X5,3,none⟩=some (Value.slice none 0 0)/\W.cell? ⟨X5,4,none⟩=some (Value.slice D2 2 e2)):=LH (λW hW=>by
   have h:=HB5.out.keep hW;exact ⟨h.cell 0,h.cell 1,h.cell 2,h.cell 3,h.cell 4⟩)
  have HS5:Hid (∀ W,Fr W5 W -> ∀ u0 u1 u2 u3 u4,(((((W.setCell ⟨w.heap.size,0,none⟩ u0).setCell ⟨w.heap.size,1,none⟩ u1).setCell ⟨w.heap.size,2,none⟩ u2).setCell ⟨w.heap.size,3,none⟩ u3).setCell ⟨w.heap.size,4,none⟩ u4).cell? ⟨X5,0,none⟩=some (Value.int .i64 6)/\(((((W.setCell ⟨w.heap.size,0,none⟩ u0).setCell ⟨w.heap.size,1,none⟩ u1).setCell ⟨w.heap.size,2,none⟩ u2).setCell ⟨w.heap.size,3,none⟩ u3).setCell ⟨w.heap.size,4,none⟩ u4).cell? ⟨X5,1,none⟩=some (Value.int .i64 0)/\(((((W.setCell ⟨w.heap.size,0,none⟩ u0).setCell ⟨w.heap.size,1,none⟩ u1).setCell ⟨w.heap.size,2,none⟩ u2).setCell ⟨w.heap.size,3,none⟩ u3).setCell ⟨w.heap.size,4,none⟩ u4).cell? ⟨X5,2,none⟩=some (Value.string ⟨#[]⟩)/\(((((W.setCell ⟨w.heap.size,0,none⟩ u0).setCell ⟨w.heap.size,1,none⟩ u1).setCell ⟨w.heap.size,2,none⟩ u2).setCell ⟨w.heap.size,3,none⟩ u3).setCell ⟨w.heap.size,4,none⟩ u4).cell? ⟨X5,3,none⟩=some (Value.slice none 0 0)/\(((((W.setCell ⟨w.heap.size,0,none⟩ u0).setCell ⟨w.heap.size,1,none⟩ u1).setCell ⟨w.heap.size,2,none⟩ u2).setCell ⟨w.heap.size,3,none⟩ u3).setCell ⟨w.heap.size,4,none⟩ u4).cell? ⟨X5,4,none⟩=some (Value.slice D2 2 e2)):=LH (λW hW u0 u1 u2 u3 u4=>by
   have h:=HB5.out.keep hW;have n:∀ j,(Addr.mk w.heap.size j none).block≠X5:=λj=>by show w.heap.size≠X5;omega
   have h5:=((((h.other (n 0) u0).other (n 1) u1).other (n 2) u2).other (n 3) u3).other (n 4) u4;exact ⟨h5.cell 0,h5.cell 1,h5.cell 2,h5.cell 3,h5.cell 4⟩)
  clear hl0 hn;go_upto_region 3 with fail
  go_region_held3 (λW=>W.cell? ⟨X5,0,none⟩=some (Value.int .i64 6)/\W.cell? ⟨X5,1,none⟩=some (Value.int .i64 0)/\W.cell? ⟨X5,2,none⟩=some (Value.string ⟨#[]⟩)/\W.cell? ⟨X5,3,none⟩=some (Value.slice none 0 0)/\W.cell? ⟨X5,4,none⟩=some (Value.slice D2 2 e2))
   (first | with_reducible exact HS5.out _ HF7.out _ _ _ _ _ | with_reducible exact HS.out _ HF7.out | with_reducible exact HS.out _ HF6.out | with_reducible exact HS.out _ (FR _).drew | with_reducible exact HS.out _ (FR _))
   (first
    | (go_at_call 14;have hm:=HF6.out;refine (HT3.out _ D2 e2 G2 (HI5.out.keep hm)).mono ?_;rintro e w7 ⟨⟨D3,e3,G3,rfl,hgg,hin⟩,hf⟩;have hf7:=hm.trans hf;have hb:=HZ5.out.keep hf7;obtain ⟨⟨y0,y1,y2,y3,y4⟩,yf0,yf1,yf2,yf3,yf4⟩:=box5 hb;have HB7:=LH hb;have HIN3:=LH hin;have HG3':=LH hgg;have HS6:=LH hm.size;have HF7:=LH hf7;clear hf hm hf7 hb hin hgg)
    | (go_at_call 15;refine (rtxt_is _ _).mono ?_;rintro e w6 ⟨rfl,hf⟩;have hf6:Fr W5 w6:=(by first | exact hf | exact (FR _).drew.trans hf);have HF6:=LH hf6;clear hf hf6))
  go_wp2_with fail
  refine bodyPost_ret (results_cv (by rfl) rfl _ w.heap.size (by rfl) _ _ _ _ _ (set5 HB7.out)) rfl ?_;have hn2:n=3:=by rw [HN.out,if_neg HL0.out]
  have hv:Pt.prM K.data.toList L.data.toList=[Pt.prT K.data.toList,Pt.prS,Pt.prL L.data.toList]:=by unfold Pt.prM;rw [if_neg HL0.out]
  subst hn2;unfold Pt.prV;rw [hv];have hgw3:w.heap.size<G3:=by have:=HG3'.out;have:=HS6.out;have:=HB5.out.lt;omega
  have hR:∀ j,(Value.slice D3 3 e3).ownBlock≠some (Addr.mk w.heap.size j none).block:=λj e=>by
   have:=(HIN3.out.own_lt e).1;have h2:(Addr.mk w.heap.size j none).block=w.heap.size:=rfl;omega
  have hm2:=((((HIN3.out.other (hR 0) (Nat.zero_le _) (.int .i64 6)).other (hR 1) (Nat.zero_le _) (.int .i64 0)).other (hR 2) (Nat.zero_le _) (.string ⟨#[]⟩)).other (hR 3) (Nat.zero_le _) (.slice none 0 0)).other (hR 4) (Nat.zero_le _) (.slice D3 3 e3);exact ⟨⟨D3,e3,rfl,hm2.lower (Nat.zero_le _) (Nat.le_of_lt hgw3),(hm2.inV (by simp)).more (λb hb=>by show b<_;rcases hb with hb | hb <;> omega)⟩,(HF0.out.trans (HF5.out.trans HF7.out)).put5 (X:=w.heap.size) (lR _) _ _ _ _ _⟩
/- Chapter 25: Problem of envelope. -/

theorem msb_made (w:World) (xs:List (List UInt8 × Value)) (m:List (List UInt8 × JV)) (cs:Array Value) (n:Nat) (hcs:cs.toList=mcs xs) (h5:∀ p∈xs,Five p.2) (hl:xs.length=m.length) (hn:n=m.length) (h63:n<=1000)
  (h:∀ i (h1:i<xs.length) (h2:i<m.length),xs[i].1=m[i].1/\m[i].1.length<=140737488355328 /\ ∀ W S,InV W S m[i].2 xs[i].2):
  MsB (w.alloc (.cells cs 44)) 0 w.heap.size (.slice (some ⟨w.heap.size,0,none⟩) n n) m:=by
 subst hn;refine ⟨⟨Nat.zero_le _,by simp⟩,xs,⟨?_,h5⟩,hl,λi a b=>⟨(h i a b).1,(h i a b).2.1,(h i a b).2.2 _ _⟩⟩;have:=World.ownsRow_lit (base:=w.heap.size) (size:=6) (e:=44) w cs m.length (lR _) (by unfold maxLen;omega) (by have:=congrArg List.length hcs;rw [mcs_len h5] at this;simp at this;omega);rw [hcs] at this;rw [<- hl] at this ⊢;exact this

theorem step_mB_lit {ops:Array Oper} {o:Oper} {a:Act} {w:World} {K:Act->World->Prop} {Q:Exit->Act->World->Prop} {E:Prop} {cs:Array Value}
  (hgd:o.guard=none) (s x:Operand) (ho:o.op=.call { callee:=.builtin .append,args:=#[s,x],argTypes:=#[24,24] })
  (Z G:Nat) (v:Value) (l:List (List UInt8 × JV)) (hs:a.eval s=v) (hown:MsB w Z G v l) (nm:List UInt8) (u:JV) (C:Option Addr) (f:Nat) (C':Option Addr) (f':Nat) (hcs:cs=#[.string ⟨nm.toArray⟩,.int .i64 u.kd,.int .i64 u.nm,.string ⟨u.tx.toArray⟩,.slice C u.ls.length f,.slice C' u.ms.length f']) (hnm:nm.length<=140737488355328) (hu:InV w (Lo Z) u (vA u C f C' f')) (n m:Nat) (hx:a.eval x=.slice (some ⟨w.heap.size,0,none⟩) n m) (hn:n=1) (hm:m=1) (h63:(l.length+1)*96<=140737488355328)
  (h:∀ v' w',MsB w' Z G v' (l++[(nm,u)])->(w.alloc (.cells cs 44)).grownBy w' v.ownBlock->(v'.ownBlock=v.ownBlock\/v'.ownBlock=some (w.heap.size+1))->K (a.put o.dst v') w'):
  if Region.wanted o (yielded ops a.tmps)=true then Oper.wp Tryz.prog o a (w.alloc (.cells cs 44)) K Q else E:=by
 subst hn;subst hm;have hw:Region.wanted o (yielded ops a.tmps)=true:=by simp [Region.wanted,hgd]
 rw [if_pos hw];have hal:=(FR w).alloc (.cells cs 44);have h0:=hown.1;have hb:=Blk.made w cs 44;obtain ⟨v',w',hr,h3,h4,h6⟩:=run_mBk (w:=w.alloc (.cells cs 44)) o.type Z G v l (hown.keep hal) ⟨w.heap.size,0,none⟩ 1 [(nm,u)] [(nm,vA u C f C' f')] rfl (λp hp=>by simp at hp;subst hp;exact five_vA _ _ _ _ _)
  (λi h1 h2=>by
   obtain rfl:i=0:=by simp at h1;omega
   exact ⟨rfl,hnm,hu.map (λ_ h=>h) (λb o hb=>hal.cell (lL hb (lT h0.1 h0.2)))⟩)
  (λj y hy=>by
   have e:mcs [(nm,vA u C f C' f')]=cs.toList:=by subst hcs;simp [mcs,vA,Value.cells]
   rw [e] at hy;have hj:(Addr.mk w.heap.size 0 none).add j=⟨w.heap.size,j,none⟩:=by
    by_cases h0:j=0
    ·subst h0;simp [Addr.add]
    ·simp [Addr.add,h0]
   rw [hj,hb.cell j];simpa using hy) h63
 unfold Oper.wp execOp;simp only [ho,resolve,invoke,builtin,Sem.run_bind,Sem.run_pure,Result.andThen_ok,List.map_toArray,List.map_cons,List.map_nil,hs,hx,List.length_singleton] at hr ⊢;simp only [hr];exact h v' w' h3 h4 (by simpa using h6)

theorem eproblem_is (K L:ByteArray) (w:World) (hK:K.size<=140737488351232) (hL:L.size<=140737488351232) (n:Nat) (hn:n=if L.data.toList=[] then 2 else 3):
  Calls Tryz.prog 20 #[.string K,.string L] w λe w'=>(∃ (D:Option Addr) (g:Nat),e=.returned (.agg #[.int .i64 6,.int .i64 0,.string ⟨#[]⟩,.slice none 0 0,(.slice D n g)])/\MsB w' 0 w.heap.size (.slice D n g) (Pt.prM K.data.toList L.data.toList)/\InV w' (Lo w'.heap.size) (Pt.prV K.data.toList L.data.toList) (.agg #[.int .i64 6,.int .i64 0,.string ⟨#[]⟩,.slice none 0 0,(.slice D n g)]))/\Fr w w':=by
 have hK':(K.size:Int)<=140737488351232:=by omega
 have hkl:K.data.toList.length=K.size:=by simp
 have hll:L.data.toList.length=L.size:=by simp
 have no1:¬ (9223372036854775807<27+K.size):=by omega
 obtain ⟨U,hU⟩:∃ U:ByteArray,U=(⟨#[117,114,110,58,105,101,116,102,58,112,97,114,97,109,115,58,106,109,97,112,58,101,114,114,111,114,58]⟩++K):=⟨_,rfl⟩;have hU2:U=⟨([117,114,110,58,105,101,116,102,58,112,97,114,97,109,115,58,106,109,97,112,58,101,114,114,111,114,58]++K.data.toList).toArray⟩:=by rw [hU];exact urn_data K
 have HM2:Hid (∀ W:World,MsB (W.alloc (.cells #[.string ⟨#[116,121,112,101]⟩,.int .i64 4,.int .i64 0,.string U,.slice none 0 0,.slice none 0 0,.string ⟨#[115,116,97,116,117,115]⟩,.int .i64 3,.int .i64 400,.string ⟨#[]⟩,.slice none 0 0,.slice none 0 0] 44)) 0 W.heap.size (.slice (some ⟨W.heap.size,0,none⟩) 2 2) [Pt.prT K.data.toList,Pt.prS]):=LH (λW=>by
  rw [hU2];refine msb_made W [([116,121,112,101],.agg #[.int .i64 4,.int .i64 0,.string ⟨([117,114,110,58,105,101,116,102,58,112,97,114,97,109,115,58,106,109,97,112,58,101,114,114,111,114,58]++K.data.toList).toArray⟩,.slice none 0 0,.slice none 0 0]),([115,116,97,116,117,115],.agg #[.int .i64 3,.int .i64 400,.string ⟨#[]⟩,.slice none 0 0,.slice none 0 0])] [Pt.prT K.data.toList,Pt.prS] _ 2 rfl (λp hp=>?_) rfl rfl (by omega) (λi a b=>?_)
  ·simp at hp;rcases hp with rfl | rfl <;> exact ⟨_,_,_,_,_,rfl,rfl,rfl,rfl,rfl,rfl⟩
  ·have hi:i=0\/i=1:=by simp at a;omega
   rcases hi with rfl | rfl
   ·exact ⟨rfl,by simp [Pt.prT],λW S=>txt_in W S _ (by simp;omega)⟩
   ·exact ⟨rfl,by simp [Pt.prS],λW S=>InV.leaf W S 3 400 [] none none 0 0 (by decide) (by decide) (by decide) (by decide) (by simp)⟩)
 have HLT:Hid (L.data.toList.length<=140737488355328):=LH (by omega);have HZ:Hid (Blk (w.alloc (.cells #[.int .i64 0,.int .i64 0,.string ⟨#[]⟩,.slice none 0 0,.slice none 0 0] 29)) w.heap.size #[.int .i64 0,.int .i64 0,.string ⟨#[]⟩,.slice none 0 0,.slice none 0 0] 29):=Blk.made w _ _;have HF0:Hid (Fr w (w.alloc (.cells #[.int .i64 0,.int .i64 0,.string ⟨#[]⟩,.slice none 0 0,.slice none 0 0] 29))):=(FR w).alloc _;obtain ⟨le,hle⟩:∃ b:Bool,L.toList.isEmpty=b:=⟨_,rfl⟩;have hlb:(le=true/\L.data.toList=[])\/(le=false/\L.data.toList≠[]):=by
  rw [<- hle,ByteArray.toList_eq]
  cases L.data.toList <;> simp
 clear hkl hll hU2;subst hU;go_enter Tryz.func20,Tryz.ntmps20
 go_upto_region 2 with (first
  | (go_at_call 40;have hm:=HG1.out;have h2:=HM2.out w1;have hal:=(FR w1).alloc (.cells #[.string ⟨#[116,121,112,101]⟩,.int .i64 4,.int .i64 0,.string (⟨#[117,114,110,58,105,101,116,102,58,112,97,114,97,109,115,58,106,109,97,112,58,101,114,114,111,114,58]⟩++K),.slice none 0 0,.slice none 0 0,.string ⟨#[115,116,97,116,117,115]⟩,.int .i64 3,.int .i64 400,.string ⟨#[]⟩,.slice none 0 0,.slice none 0 0] 44);refine (obj_is _ _ _ _).mono ?_;rintro e w2 ⟨rfl,hf⟩;have HIN2:=LH (h2.keep hf);have HG3:=LH (hm.trans (hal.trans hf));clear hf hm h2 hal)
  | (go_at_call 39;refine (etxt_is _ _).mono ?_;rintro e w1 ⟨rfl,hf⟩;have HG1:=LH hf;clear hf))
 have hf5:=HG3.out.alloc (.cells #[.int .i64 6,.int .i64 0,.string ⟨#[]⟩,.slice none 0 0,(.slice (some ⟨w1.heap.size,0,none⟩) 2 2)] 29);have hb5:=Blk.made w2 #[.int .i64 6,.int .i64 0,.string ⟨#[]⟩,.slice none 0 0,(.slice (some ⟨w1.heap.size,0,none⟩) 2 2)] 29;have hi5:=HIN2.out.keep ((FR w2).alloc (.cells #[.int .i64 6,.int .i64 0,.string ⟨#[]⟩,.slice none 0 0,(.slice (some ⟨w1.heap.size,0,none⟩) 2 2)] 29));have hgw:w.heap.size<w1.heap.size:=by have:=HG1.out.size;have h3:=HZ.out.lt;omega
 have hx5:w1.heap.size<w2.heap.size:=(HIN2.out.own_lt rfl).2;generalize (w2.alloc (.cells #[.int .i64 6,.int .i64 0,.string ⟨#[]⟩,.slice none 0 0,(.slice (some ⟨w1.heap.size,0,none⟩) 2 2)] 29))=W5 at hf5 hb5 hi5 ⊢;generalize w2.heap.size=X5 at hb5 hx5 ⊢;generalize w1.heap.size=G2 at hb5 hi5 hx5 hgw ⊢;have HF5:=LH hf5;have HB5:=LH hb5;have HI5:=LH hi5;obtain ⟨⟨b0,b1,b2,b3,b4⟩,bf0,bf1,bf2,bf3,bf4⟩:=box5 hb5;obtain ⟨⟨z0,z1,z2,z3,z4⟩,zf0,zf1,zf2,zf3,zf4⟩:=box5 (HZ.out.keep hf5);have HZ5:=LH (HZ.out.keep hf5);have nX:¬ w.heap.size=X5:=by omega
 have nX2:¬ X5=w.heap.size:=by omega
 clear hf5 hb5 hi5;rcases hlb with ⟨rfl,hl0⟩ | ⟨rfl,hl0⟩
 ·have HL0:=LH hl0;have HN:=LH hn;clear hl0 hn;go_wp2_with fail
  refine bodyPost_ret (results_cv (by rfl) rfl _ w.heap.size (by rfl) _ _ _ _ _ (set5 HZ5.out)) rfl ?_;have hn2:n=2:=by rw [HN.out,if_pos HL0.out]
  have hv:Pt.prM K.data.toList L.data.toList=[Pt.prT K.data.toList,Pt.prS]:=by unfold Pt.prM;rw [if_pos HL0.out]
  subst hn2;unfold Pt.prV;rw [hv];have hR:∀ j,(Value.slice (some ⟨G2,0,none⟩) 2 2).ownBlock≠some (Addr.mk w.heap.size j none).block:=λj e=>by
   have:=(HI5.out.own_lt e).1;have h2:(Addr.mk w.heap.size j none).block=w.heap.size:=rfl;omega
  have hm2:=((((HI5.out.other (hR 0) (Nat.zero_le _) (.int .i64 6)).other (hR 1) (Nat.zero_le _) (.int .i64 0)).other (hR 2) (Nat.zero_le _) (.string ⟨#[]⟩)).other (hR 3) (Nat.zero_le _) (.slice none 0 0)).other (hR 4) (Nat.zero_le _) (.slice (some ⟨G2,0,none⟩) 2 2);exact ⟨⟨some ⟨G2,0,none⟩,2,rfl,hm2.lower (Nat.zero_le _) (Nat.le_of_lt hgw),(hm2.inV (by simp)).more (λb hb=>by show b<_;rcases hb with hb | hb <;> omega)⟩,(HF0.out.trans HF5.out).put5 (X:=w.heap.size) (lR _) _ _ _ _ _⟩
 ·have HL0:=LH hl0;have HN:=LH hn;clear hl0 hn;have hown5:∀ k,k=X5\/k=w.heap.size->(Value.slice (some ⟨G2,0,none⟩) 2 2).ownBlock≠some k:=λk hk e=>by
   have e2:G2=k:=Option.some.inj e;rcases hk with rfl | rfl <;> omega
  go_upto_region 3 with fail
  have b4d:W5.drew.cell? ⟨X5,4,none⟩=some (.slice (some ⟨G2,0,none⟩) 2 2):=b4;go_region_law (first
   | (refine step_mB_lit rfl (.tmp 17) (.tmp 21) rfl 0 G2 _ [Pt.prT K.data.toList,Pt.prS] rfl (HI5.out.keep HF6.out) [108,105,109,105,116] (JV.textV L.data.toList) none 0 none 0 (by simp [JV.textV,JV.kd,JV.nm,JV.tx,JV.ls,JV.ms]) (by simp) (txt_in _ _ _ HLT.out) 1 1 rfl rfl rfl (by simp) ?_;intro v7 w7 hv7 hg7 ho7;obtain ⟨b7,k7,e7⟩:=hv7.is_slice;have e7:v7=.slice b7 3 k7:=e7;subst e7;have hal6:=HF6.out.alloc (.cells #[.string ⟨#[108,105,109,105,116]⟩,.int .i64 4,.int .i64 0,.string L,.slice none 0 0,.slice none 0 0] 44);have hy7:Blk w7 X5 _ _:=(hg7.block _ (HB5.out.keep hal6).lt (λe=>hown5 _ (.inl rfl) e.symm)).trans (HB5.out.keep hal6);have hr7:Blk w7 w.heap.size _ _:=(hg7.block _ (HZ5.out.keep hal6).lt (λe=>hown5 _ (.inr rfl) e.symm)).trans (HZ5.out.keep hal6);obtain ⟨⟨y0,y1,y2,y3,y4⟩,yf0,yf1,yf2,yf3,yf4⟩:=box5 hy7;obtain ⟨⟨r0,r1,r2,r3,r4⟩,rf0,rf1,rf2,rf3,rf4⟩:=box5 hr7;have HR7:=LH hr7;have HV7:=LH hv7;have HO7:=LH ho7;have HF7:=LH (Below.grown (HF0.out.trans (HF5.out.trans hal6)) hg7 (HF0.out.trans (HF5.out.trans hal6)).size (λk hk=>by have e2:G2=k:=Option.some.inj hk;omega):Fr w w7);have HS6:=LH HF6.out.size;clear hv7 hg7 ho7 hal6 hy7 hr7)
   | (go_simp;go_at_call 39;refine (etxt_is _ _).mono ?_;rintro e w6 ⟨rfl,hf⟩;have hf6:Fr W5 w6:=(by first | exact hf | exact (FR _).drew.trans hf);obtain ⟨⟨d0,d1,d2,d3,d4⟩,df0,df1,df2,df3,df4⟩:=box5 (HB5.out.keep hf6);have q4:(w6.alloc (.cells #[.string ⟨#[108,105,109,105,116]⟩,.int .i64 4,.int .i64 0,.string L,.slice none 0 0,.slice none 0 0] 44)).cell? ⟨X5,4,none⟩=some (.slice (some ⟨G2,0,none⟩) 2 2):=((HB5.out.keep hf6).keep ((FR w6).alloc (.cells #[.string ⟨#[108,105,109,105,116]⟩,.int .i64 4,.int .i64 0,.string L,.slice none 0 0,.slice none 0 0] 44))).cell 4;have HF6:=LH hf6;clear hf hf6))
  all_goals
   go_wp2_with fail
   refine bodyPost_ret (results_cv (by rfl) rfl _ w.heap.size (by rfl) _ _ _ _ _ (set5 (HR7.out.other (show (Addr.mk X5 4 none).block≠w.heap.size from nX2) _))) rfl ?_;have hn2:n=3:=by rw [HN.out,if_neg HL0.out]
   have hv:Pt.prM K.data.toList L.data.toList=[Pt.prT K.data.toList,Pt.prS,Pt.prL L.data.toList]:=by unfold Pt.prM;rw [if_neg HL0.out]
   subst hn2;unfold Pt.prV;rw [hv];have hv7:MsB w7 0 G2 (.slice b7 3 k7) [Pt.prT K.data.toList,Pt.prS,Pt.prL L.data.toList]:=HV7.out;have hx5l:X5<w6.heap.size+1:=by have:=HS6.out;have:=HB5.out.lt;omega
   have hon:∀ k,k=X5\/k=w.heap.size->(Value.slice b7 3 k7).ownBlock≠some k:=λk hk e=>by
    rcases HO7.out with h6 | h6
    ·rw [h6] at e;exact hown5 k hk e
    ·rw [h6] at e;have:=Option.some.inj e;rcases hk with rfl | rfl <;> omega
   have hR:∀ j,(Value.slice b7 3 k7).ownBlock≠some (Addr.mk w.heap.size j none).block:=λj=>hon _ (.inr rfl)
   have hfr7:Fr w (w7.setCell ⟨X5,4,none⟩ (.slice b7 3 k7)):=Below.setCell HF7.out (p:=⟨X5,4,none⟩) (by show w.heap.size<=X5;omega) _;have hm1:=hv7.other (a:=⟨X5,4,none⟩) (hon _ (.inl rfl)) (Nat.zero_le _) (.slice b7 3 k7);have hm2:=((((hm1.other (hR 0) (Nat.zero_le _) (.int .i64 6)).other (hR 1) (Nat.zero_le _) (.int .i64 0)).other (hR 2) (Nat.zero_le _) (.string ⟨#[]⟩)).other (hR 3) (Nat.zero_le _) (.slice none 0 0)).other (hR 4) (Nat.zero_le _) (.slice b7 3 k7);exact ⟨⟨b7,k7,rfl,hm2.lower (Nat.zero_le _) (Nat.le_of_lt hgw),(hm2.inV (by simp)).more (λb hb=>by show b<_;rcases hb with hb | hb <;> omega)⟩,hfr7.put5 (X:=w.heap.size) (lR _) _ _ _ _ _⟩
end Go.Proofs.YtockgemmkjdnkaaGreatDoor
