/- Chapter 25: the errors. -/
import Derived.Test.YtockgemmkjdnkaaGreatDoorEva
import Derived.Test.YtockgemmkjdnkaaGreatDoorEvZ
import Derived.Test.YtockgemmkjdnkaaGreatDoorPtt
namespace Go.Proofs.YtockgemmkjdnkaaGreatDoor
set_option maxRecDepth 100000
set_option maxHeartbeats 4000000
set_option linter.unusedVariables false
set_option linter.unusedSimpArgs false
open Go.RowKit

theorem radd_is (v x:JV) (B:Option Addr) (d:Nat) (B':Option Addr) (d':Nat) (C:Option Addr) (f:Nat) (C':Option Addr) (f':Nat) (s:List UInt8) (w:World) (Z:Nat) (hZ:Z≤w.heap.size) (hv:InV w (Lo Z) v (vA v B d B' d')) (hx:InV w (Lo Z) x (vA x C f C' f')) (hl:v.ms.length*96≤140737488300000) (hs:s.length≤140737488355328):
  Calls Tryz.prog 14 #[.agg #[.int .i64 v.kd,.int .i64 v.nm,.string ⟨v.tx.toArray⟩,.slice B v.ls.length d,.slice B' v.ms.length d'],.string ⟨s.toArray⟩,.agg #[.int .i64 x.kd,.int .i64 x.nm,.string ⟨x.tx.toArray⟩,.slice C x.ls.length f,.slice C' x.ms.length f']] w fun e w'=>∃ (D:Option Addr) (g:Nat),e=.returned (.agg #[.int .i64 6,.int .i64 0,.string ⟨#[]⟩,.slice none 0 0,.slice D (v.ms++[(s,x)]).length g])∧InV w' (Ne Z w w') (JV.mapV (v.ms++[(s,x)])) (.agg #[.int .i64 6,.int .i64 0,.string ⟨#[]⟩,.slice none 0 0,.slice D (v.ms++[(s,x)]).length g])∧Fr w w':=by
 refine (radd_ms v x B d B' d' C f C' f' s w Z hZ hv hx hl hs).mono ?_
 rintro e w' ⟨D,g,K,h1,h2,h3,h4⟩
 have hlen:(v.ms++[(s,x)]).length=v.ms.length+1:=by simp
 exact ⟨D,g,h1,(h3.inV (by rw [hlen];omega)).more (fun b hb=>hb.imp id (fun hb=>⟨by omega,hb.2⟩)),h4⟩
theorem InV.putE {w:World} {S:Nat→Prop} {v:JV} {x:Value} (h:InV w S v x) {X:Nat} (hX:∀ b,S b→b≠X) (u0 u1 u2 u3 u4:Value):InV (((((w.setCell ⟨X,0,none⟩ u0).setCell ⟨X,1,none⟩ u1).setCell ⟨X,2,none⟩ u2).setCell ⟨X,3,none⟩ u3).setCell ⟨X,4,none⟩ u4) S v x:=
 h.map (fun _ h=>h) (fun b o hb=>by
  have hne:=hX b hb
  unfold World.cell?
  rw [Below.heap_setCell _ _ _ _ hne,Below.heap_setCell _ _ _ _ hne,Below.heap_setCell _ _ _ _ hne,Below.heap_setCell _ _ _ _ hne,Below.heap_setCell _ _ _ _ hne])
theorem sizeE (w:World) (X:Nat) (u0 u1 u2 u3 u4:Value):(((((w.setCell ⟨X,0,none⟩ u0).setCell ⟨X,1,none⟩ u1).setCell ⟨X,2,none⟩ u2).setCell ⟨X,3,none⟩ u3).setCell ⟨X,4,none⟩ u4).heap.size=w.heap.size:=by simp [World.setCell]
theorem radd_zero (s:List UInt8) (x:JV) (C:Option Addr) (f:Nat) (C':Option Addr) (f':Nat) (w:World) (Z:Nat) (hZ:Z≤w.heap.size) (hx:InV w (Lo Z) x (vA x C f C' f')) (hs:s.length≤140737488355328):
  Calls Tryz.prog 14 #[.agg #[.int .i64 0,.int .i64 0,.string ⟨#[]⟩,.slice none 0 0,.slice none 0 0],.string ⟨s.toArray⟩,.agg #[.int .i64 x.kd,.int .i64 x.nm,.string ⟨x.tx.toArray⟩,.slice C x.ls.length f,.slice C' x.ms.length f']] w fun e w'=>(∃ (D:Option Addr) (g:Nat),e=.returned (.agg #[.int .i64 6,.int .i64 0,.string ⟨#[]⟩,.slice none 0 0,(.slice D 1 g)])∧InV w' (Ne Z w w') (JV.mapV [(s,x)]) (.agg #[.int .i64 6,.int .i64 0,.string ⟨#[]⟩,.slice none 0 0,(.slice D 1 g)]))∧Fr w w':=by
 have:=radd_is JV.zeroV x none 0 none 0 C f C' f' s w Z hZ (zeroV_in w _) hx (by simp [JV.zeroV,JV.ms]) hs
 refine this.mono ?_
 rintro e w' ⟨D,g,h1,h2,h3⟩
 exact ⟨⟨D,g,h1,h2⟩,h3⟩

theorem rerror_is (k:List UInt8) (w:World) (hk:k.length≤140737488355328):
  Calls Tryz.prog 22 #[.string ⟨k.toArray⟩] w fun e w'=>(∃ (D:Option Addr) (g:Nat),e=.returned (.agg #[.int .i64 6,.int .i64 0,.string ⟨#[]⟩,.slice none 0 0,(.slice D 1 g)])∧InV w' (Ne w.heap.size w w') (Pt.errV k) (.agg #[.int .i64 6,.int .i64 0,.string ⟨#[]⟩,.slice none 0 0,(.slice D 1 g)]))∧Fr w w':=by
 have HADD:Hid (∀ W,Fr w W→Calls Tryz.prog 14 #[.agg #[.int .i64 0,.int .i64 0,.string ⟨#[]⟩,.slice none 0 0,.slice none 0 0],.string ⟨#[116,121,112,101]⟩,.agg #[.int .i64 4,.int .i64 0,.string ⟨k.toArray⟩,.slice none 0 0,.slice none 0 0]] W fun e w'=>(∃ (D:Option Addr) (g:Nat),e=.returned (.agg #[.int .i64 6,.int .i64 0,.string ⟨#[]⟩,.slice none 0 0,(.slice D 1 g)])∧InV w' (Ne w.heap.size W w') (Pt.errV k) (.agg #[.int .i64 6,.int .i64 0,.string ⟨#[]⟩,.slice none 0 0,(.slice D 1 g)]))∧Fr W w'):=Lib.hid (fun W hW=>radd_zero [116,121,112,101] (JV.textV k) none 0 none 0 W w.heap.size hW.size (txt_in W _ k hk) (by simp))
 have HZ:Hid (Blk (w.alloc (.cells #[.int .i64 0,.int .i64 0,.string ⟨#[]⟩,.slice none 0 0,.slice none 0 0] 29)) w.heap.size #[.int .i64 0,.int .i64 0,.string ⟨#[]⟩,.slice none 0 0,.slice none 0 0] 29):=Blk.made w _ _
 clear hk
 go_enter Tryz.func22,Tryz.ntmps22
 go_wp2_with (first
  | (go_at_call 14;have hg:=HG1.out;refine (HADD.out _ (((Fr.refl w).alloc _).trans hg)).mono ?_;rintro e w2 ⟨⟨D,g,rfl,hin⟩,hf⟩;have hb:=HZ.out.keep (hg.trans hf);obtain ⟨⟨z0,z1,z2,z3,z4⟩,zf0,zf1,zf2,zf3,zf4⟩:=box5 hb;have HB2:=Lib.hid hb;have HIN:=Lib.hid hin;have HS1:=Lib.hid hg.size;have HF2:=Lib.hid (hg.trans hf);clear hb hin hf hg)
  | (go_at_call 15;refine (rtxt_is _ _).mono ?_;rintro e w1 ⟨rfl,hf⟩;have HG1:=Lib.hid hf;clear hf))
 refine bodyPost_ret (results_cv (by rfl) rfl _ w.heap.size (by rfl) _ _ _ _ _ (set5 HB2.out)) rfl ?_
 have hs1:w.heap.size<w1.heap.size:=Nat.lt_of_lt_of_le HZ.out.lt HS1.out
 refine ⟨⟨D,g,rfl,(HIN.out.map (S':=fun b=>b≠w.heap.size∧(b<w.heap.size∨(w.heap.size≤b∧b<w2.heap.size))) (fun b hb=>by rcases hb with hb | hb <;> (constructor <;> omega)) (fun _ _ _=>rfl)).putE (fun b hb=>hb.1) _ _ _ _ _ |>.more (fun b hb=>?_)⟩,(((Fr.refl w).alloc _).trans HF2.out).put5 (X:=w.heap.size) (Nat.le_refl _) _ _ _ _ _⟩
 rcases hb.2 with hb2 | hb2
 ·exact .inl hb2
 ·exact .inr ⟨hb2.1,by simp only [sizeE];exact hb2.2⟩

theorem eerror_is (k:List UInt8) (w:World) (hk:k.length≤140737488355328):
  Calls Tryz.prog 21 #[.string ⟨k.toArray⟩] w fun e w'=>(∃ (D:Option Addr) (g:Nat),e=.returned (.agg #[.int .i64 6,.int .i64 0,.string ⟨#[]⟩,.slice none 0 0,(.slice D 1 g)])∧InV w' (Ne w.heap.size w w') (Pt.errV k) (.agg #[.int .i64 6,.int .i64 0,.string ⟨#[]⟩,.slice none 0 0,(.slice D 1 g)]))∧Fr w w':=by
 have HZ:Hid (Blk (w.alloc (.cells #[.int .i64 0,.int .i64 0,.string ⟨#[]⟩,.slice none 0 0,.slice none 0 0] 29)) w.heap.size #[.int .i64 0,.int .i64 0,.string ⟨#[]⟩,.slice none 0 0,.slice none 0 0] 29):=Blk.made w _ _
 have HK:=Lib.hid hk
 clear hk
 go_enter Tryz.func21,Tryz.ntmps21
 go_wp2_with (first
  | (go_at_call 40;have hg:=HG1.out;have hm:=Blk.made w1 #[.string ⟨#[116,121,112,101]⟩,.int .i64 4,.int .i64 0,.string ⟨k.toArray⟩,.slice none 0 0,.slice none 0 0] 44;refine (obj_is _ _ _ _).mono ?_;rintro e w2 ⟨rfl,hf⟩;have hal:=(Fr.refl w1).alloc (.cells #[.string ⟨#[116,121,112,101]⟩,.int .i64 4,.int .i64 0,.string ⟨k.toArray⟩,.slice none 0 0,.slice none 0 0] 44);have hgf:=hg.trans (hal.trans hf);have hb:=HZ.out.keep hgf;obtain ⟨⟨z0,z1,z2,z3,z4⟩,zf0,zf1,zf2,zf3,zf4⟩:=box5 hb;have HB2:=Lib.hid hb;have HM2:=Lib.hid (hm.keep hf);have HS1:=Lib.hid hg.size;have HF2:=Lib.hid hgf;clear hb hf hg hal hgf hm)
  | (go_at_call 39;refine (etxt_is _ _).mono ?_;rintro e w1 ⟨rfl,hf⟩;have HG1:=Lib.hid hf;clear hf))
 refine bodyPost_ret (results_cv (by rfl) rfl _ w.heap.size (by rfl) _ _ _ _ _ (set5 HB2.out)) rfl ?_
 have hs1:w.heap.size<w1.heap.size:=Nat.lt_of_lt_of_le HZ.out.lt HS1.out
 have hin:InV w2 (fun b=>b≠w.heap.size∧(w.heap.size≤b∧b<w2.heap.size)) (Pt.errV k) (.agg #[.int .i64 6,.int .i64 0,.string ⟨#[]⟩,.slice none 0 0,(.slice (some ⟨w1.heap.size,0,none⟩) 1 1)]):=by
  refine InV.ofMap (b:=w1.heap.size) (o:=0) (c:=1) (l:=[([116,121,112,101],JV.textV k)]) ⟨by omega,by omega,HM2.out.lt⟩ (by simp) (fun i hi=>?_)
  obtain rfl:i=0:=by simp at hi;omega
  exact ⟨by simp,_,_,_,_,_,HM2.out.cell 0,HM2.out.cell 1,HM2.out.cell 2,HM2.out.cell 3,HM2.out.cell 4,HM2.out.cell 5,txt_in _ _ k HK.out⟩
 refine ⟨⟨_,_,rfl,(hin.putE (fun b hb=>hb.1) _ _ _ _ _).more (fun b hb=>.inr ⟨hb.2.1,by simp only [sizeE];exact hb.2.2⟩)⟩,(((Fr.refl w).alloc _).trans HF2.out).put5 (X:=w.heap.size) (Nat.le_refl _) _ _ _ _ _⟩
/- Chapter 25: EnvelopeMakes' walk. -/

theorem InV.go {w w':World} {v:JV} {x:Value} (h:InV w (Lo w.heap.size) v x) (hf:Fr w w'):InV w' (Lo w'.heap.size) v x:=(h.keep (Nat.le_refl _) hf).lo hf.size
theorem Pt.bulkC_nm {cs:List CallV} (h:Pt.bulkC cs≤1048576):∀ p∈cs,p.1.1.length≤140737488355328∧p.2.length≤140737488355328:=fun p hp=>by
 have:=Pt.bulkC_mem hp
 exact ⟨by omega,by omega⟩
theorem eresp_is (l:List CallV) (A:Option Addr) (c:Nat) (ms:List (List UInt8 × JV)) (B:Option Addr) (d:Nat) (has:Bool) (w:World) (h:CsR w A l) (hm:MsC w (Lo w.heap.size) B ms) (hl:l.length≤1048576) (hml:ms.length≤1048576) (hnm:∀ p∈l,p.1.1.length≤140737488355328∧p.2.length≤140737488355328):
  Calls Tryz.prog 19 #[.slice A l.length c,.slice B ms.length d,.bool has] w fun e w'=>(∃ (D:Option Addr) (g:Nat),e=.returned (.agg #[.int .i64 6,.int .i64 0,.string ⟨#[]⟩,.slice none 0 0,.slice D (Pt.respM l ms has).length g])∧InV w' (Lo w'.heap.size) (Pt.respV l ms has) (.agg #[.int .i64 6,.int .i64 0,.string ⟨#[]⟩,.slice none 0 0,.slice D (Pt.respM l ms has).length g]))∧Fr w w':=by
 cases has with
 | false=>
  refine (eresp_no l A c ms.length d B w h hl hnm).mono ?_
  rintro e w' ⟨⟨D,g,K,rfl,hK,hm⟩,hf⟩
  exact ⟨⟨D,g,rfl,(hm.inV (by simp)).more (fun b hb=>by have:=hm.1.2;rcases hb with hb | hb;exact Nat.lt_of_lt_of_le hb this;exact hb.2)⟩,hf⟩
 | true=>
  refine (eresp_yes l A c ms B d w h hm hl hml hnm).mono ?_
  rintro e w' ⟨⟨D,g,S,rfl,hm⟩,hf⟩
  exact ⟨⟨D,g,rfl,(hm.inV (by simp)).more (fun b hb=>by rcases hb with hb | hb;exact hm.sblt hb;exact hb.2)⟩,hf⟩

theorem makes_law (cs:List CallV) (A:Option Addr) (c:Nat) (ms:List (List UInt8 × JV)) (B:Option Addr) (d:Nat) (has:Bool) (K L:ByteArray) (w:World) (hc:CsR w A cs) (hm:MsC w (Lo w.heap.size) B ms) (h1:Pt.bulkC cs≤1048576) (h2:JV.bulkM ms≤1048576) (hK:K.size≤140737488351232) (hL:L.size≤140737488351232) (hT:LowTabs w):
  Calls Tryz.prog 6 #[.slice A cs.length c,.slice B ms.length d,.bool has,.string K,.string L] w fun e w'=>e=.returned (.bool true)∧Fr w w':=by
 have HT:=Lib.hid hT
 have hcl:cs.length≤1048576:=Nat.le_trans (Pt.bulkC_len cs) h1
 have hml:ms.length≤1048576:=by have:=JV.bulkM_len ms;omega
 have hmk:∀ W,Fr w W→MsC W (Lo W.heap.size) B ms:=fun W hW=>(hm.keep (Nat.le_refl _) hW).map (fun b hb=>Nat.lt_of_lt_of_le hb hW.size) (fun _ _ _=>rfl)
 obtain ⟨n,hn⟩:∃ n,(Pt.respM cs ms has).length=n:=⟨_,rfl⟩
 obtain ⟨m,hm3⟩:∃ m,m=if L.data.toList=[] then 2 else 3:=⟨_,rfl⟩
 have HFEW:Hid (∀ W,Fr w W→Calls Tryz.prog 13 #[.slice A cs.length c,.slice B ms.length d] W fun e w'=>(∃ b:Bool,e=.returned (.bool b))∧Fr W w'):=Lib.hid (fun W hW=>few25_is cs A c ms B d W (hc.keep hW) (hmk W hW) h1 h2)
 have HER:Hid (∀ W,Fr w W→Calls Tryz.prog 19 #[.slice A cs.length c,.slice B ms.length d,.bool has] W fun e w'=>(∃ (D:Option Addr) (g:Nat),e=.returned (.agg #[.int .i64 6,.int .i64 0,.string ⟨#[]⟩,.slice none 0 0,.slice D n g])∧InV w' (Lo w'.heap.size) (Pt.respV cs ms has) (.agg #[.int .i64 6,.int .i64 0,.string ⟨#[]⟩,.slice none 0 0,.slice D n g]))∧Fr W w'):=Lib.hid (fun W hW=>by
  have:=eresp_is cs A c ms B d has W (hc.keep hW) (hmk W hW) hcl hml (Pt.bulkC_nm h1)
  rw [hn] at this
  exact this)
 have HRR:Hid (∀ W,Fr w W→Calls Tryz.prog 16 #[.slice A cs.length c,.slice B ms.length d,.bool has] W fun e w'=>(∃ (D:Option Addr) (g:Nat),e=.returned (.agg #[.int .i64 6,.int .i64 0,.string ⟨#[]⟩,.slice none 0 0,.slice D n g])∧InV w' (Lo w'.heap.size) (Pt.respV cs ms has) (.agg #[.int .i64 6,.int .i64 0,.string ⟨#[]⟩,.slice none 0 0,.slice D n g]))∧Fr W w'):=Lib.hid (fun W hW=>by
  have:=rresp_is cs A c ms B d has W (hc.keep hW) (hmk W hW) hcl hml (Pt.bulkC_nm h1)
  rw [hn] at this
  exact this)
 have HEP:Hid (∀ W,Calls Tryz.prog 20 #[.string K,.string L] W fun e w'=>(∃ (D:Option Addr) (g:Nat),e=.returned (.agg #[.int .i64 6,.int .i64 0,.string ⟨#[]⟩,.slice none 0 0,.slice D m g])∧InV w' (Lo w'.heap.size) (Pt.prV K.data.toList L.data.toList) (.agg #[.int .i64 6,.int .i64 0,.string ⟨#[]⟩,.slice none 0 0,.slice D m g]))∧Fr W w'):=Lib.hid (fun W=>by
  refine (eproblem_is K L W hK hL m hm3).mono ?_
  rintro e w' ⟨⟨D,g,he,_,hi⟩,hf⟩
  exact ⟨⟨D,g,he,hi⟩,hf⟩)
 have HRP:Hid (∀ W,Calls Tryz.prog 18 #[.string K,.string L] W fun e w'=>(∃ (D:Option Addr) (g:Nat),e=.returned (.agg #[.int .i64 6,.int .i64 0,.string ⟨#[]⟩,.slice none 0 0,.slice D m g])∧InV w' (Lo w'.heap.size) (Pt.prV K.data.toList L.data.toList) (.agg #[.int .i64 6,.int .i64 0,.string ⟨#[]⟩,.slice none 0 0,.slice D m g]))∧Fr W w'):=Lib.hid (fun W=>by
  refine (rproblem_is K L W hK hL m hm3).mono ?_
  rintro e w' ⟨⟨D,g,he,_,hi⟩,hf⟩
  exact ⟨⟨D,g,he,hi⟩,hf⟩)
 have hKl:K.data.toList.length≤140737488355328:=by have h:K.data.toList.length=K.size:=(by simp);omega
 have hKe:K=⟨K.data.toList.toArray⟩:=by simp
 have HEE:Hid (∀ W,Calls Tryz.prog 21 #[.string K] W fun e w'=>(∃ (D:Option Addr) (g:Nat),e=.returned (.agg #[.int .i64 6,.int .i64 0,.string ⟨#[]⟩,.slice none 0 0,.slice D 1 g])∧InV w' (Lo w'.heap.size) (Pt.errV K.data.toList) (.agg #[.int .i64 6,.int .i64 0,.string ⟨#[]⟩,.slice none 0 0,.slice D 1 g]))∧Fr W w'):=Lib.hid (fun W=>by
  have h:=eerror_is K.data.toList W hKl
  rw [← hKe] at h
  refine h.mono ?_
  rintro e w' ⟨⟨D,g,he,hi⟩,hf⟩
  exact ⟨⟨D,g,he,hi.more (fun b hb=>by rcases hb with hb | hb;exact Nat.lt_of_lt_of_le hb hf.size;exact hb.2)⟩,hf⟩)
 have HRE:Hid (∀ W,Calls Tryz.prog 22 #[.string K] W fun e w'=>(∃ (D:Option Addr) (g:Nat),e=.returned (.agg #[.int .i64 6,.int .i64 0,.string ⟨#[]⟩,.slice none 0 0,.slice D 1 g])∧InV w' (Lo w'.heap.size) (Pt.errV K.data.toList) (.agg #[.int .i64 6,.int .i64 0,.string ⟨#[]⟩,.slice none 0 0,.slice D 1 g]))∧Fr W w'):=Lib.hid (fun W=>by
  have h:=rerror_is K.data.toList W hKl
  rw [← hKe] at h
  refine h.mono ?_
  rintro e w' ⟨⟨D,g,he,hi⟩,hf⟩
  exact ⟨⟨D,g,he,hi.more (fun b hb=>by rcases hb with hb | hb;exact Nat.lt_of_lt_of_le hb hf.size;exact hb.2)⟩,hf⟩)
 clear hc hm h1 h2 hK hL hT hn hm3 hKl hKe hmk hcl hml
 go_enter Tryz.func6,Tryz.ntmps6
 go_wp2_with (first
  | (go_at_call 12;have hq:=HI6.out;refine ((same_is (Pt.errV K.data.toList) (Pt.errV K.data.toList) _ _).call true (by simp) rfl rfl (HI5.out.go HF6.out) HI6.out).mono ?_;rintro e w9 ⟨rfl,hf⟩;have HF9:=Lib.hid (((HP6.out.trans HF5.out).trans HF6.out).trans hf);clear hf hq)
  | (go_at_call 12;have hq:=HI4.out;refine ((same_is (Pt.prV K.data.toList L.data.toList) (Pt.prV K.data.toList L.data.toList) _ _).call true (by simp) rfl rfl (HI3.out.go HF4.out) HI4.out).mono ?_;rintro e w6 ⟨rfl,hf⟩;have HP6:=Lib.hid (((HP3.out.trans HF3.out).trans HF4.out).trans hf);clear hf hq)
  | (go_at_call 12;have hq:=HI2.out;refine ((same_is (Pt.respV cs ms has) (Pt.respV cs ms has) _ _).call true (by simp) rfl rfl (HI1.out.go HF2.out) HI2.out).mono ?_;rintro e w3 ⟨rfl,hf⟩;have HP3:=Lib.hid ((HP2.out.trans HF2.out).trans hf);clear hf hq)
  | (go_at_call 9;have hq:=HP1.out;refine (awake25 _ (HT.out.keep hq)).mono ?_;rintro e w9 ⟨rfl,hf⟩;have HF9:=Lib.hid (hq.trans hf);clear hf hq)
  | (go_at_call 9;refine (awake25 _ HT.out).mono ?_;rintro e w0 ⟨rfl,hf⟩;have HP0:=Lib.hid hf;clear hf)
  | (go_at_call 13;refine (HFEW.out _ HP0.out).mono ?_;rintro e w1 ⟨⟨bb,rfl⟩,hf⟩;have HP1:=Lib.hid (HP0.out.trans hf);clear hf;cases bb)
  | (go_at_call 19;refine (HER.out _ HP1.out).mono ?_;rintro e w2 ⟨⟨D1,g1,rfl,hi⟩,hf⟩;have HP2:=Lib.hid (HP1.out.trans hf);have HI1:=Lib.hid hi;clear hf hi)
  | (go_at_call 16;refine (HRR.out _ HP2.out).mono ?_;rintro e w3 ⟨⟨D2,g2,rfl,hi⟩,hf⟩;have HF2:=Lib.hid hf;have HI2:=Lib.hid hi;clear hf hi)
  | (go_at_call 20;refine (HEP.out _).mono ?_;rintro e w4 ⟨⟨D3,g3,rfl,hi⟩,hf⟩;have HF3:=Lib.hid hf;have HI3:=Lib.hid hi;clear hf hi)
  | (go_at_call 18;refine (HRP.out _).mono ?_;rintro e w5 ⟨⟨D4,g4,rfl,hi⟩,hf⟩;have HF4:=Lib.hid hf;have HI4:=Lib.hid hi;clear hf hi)
  | (go_at_call 21;refine (HEE.out _).mono ?_;rintro e w7 ⟨⟨D5,g5,rfl,hi⟩,hf⟩;have HF5:=Lib.hid hf;have HI5:=Lib.hid hi;clear hf hi)
  | (go_at_call 22;refine (HRE.out _).mono ?_;rintro e w8 ⟨⟨D6,g6,rfl,hi⟩,hf⟩;have HF6:=Lib.hid hf;have HI6:=Lib.hid hi;clear hf hi))
 all_goals (go_ret;exact ⟨rfl,HF9.out⟩)
end Go.Proofs.YtockgemmkjdnkaaGreatDoor
