/- Chapter 25: the document's Response. -/
import Derived.Test.YtockgemmkjdnkaaGreatDoorEvY
namespace Go.Proofs.YtockgemmkjdnkaaGreatDoor
set_option maxRecDepth 100000
set_option maxHeartbeats 4000000
set_option linter.unusedVariables false
set_option linter.unusedSimpArgs false
open Go.RowKit

namespace Pt
def respM (l:List CallV) (ms:List (List UInt8 × JV)) (has:Bool):List (List UInt8 × JV):=[(nResp,JV.listV (l.map respC))]++(if has then [(nIds,JV.mapV (foldW ms))] else [])++[(nState,JV.textV [48])]
def respV (l:List CallV) (ms:List (List UInt8 × JV)) (has:Bool):JV:=JV.mapV (respM l ms has)
end Pt
theorem NeS.of {w w':World} {S:Nat→Prop} {K:Nat} {v:JV} {x:Value} (h:InV w' (fun b=>S b∨(K≤b∧b<w'.heap.size)) v x) (hK:w.heap.size≤K):InV w' (NeS S w w') v x:=h.more (fun b hb=>hb.imp id (fun h=>⟨Nat.le_trans hK h.1,h.2⟩))
theorem radd_map (m:List (List UInt8 × JV)) (x:JV) (B':Option Addr) (d':Nat) (C:Option Addr) (f:Nat) (C':Option Addr) (f':Nat) (s:List UInt8) (w:World) (S:Nat→Prop) (hZ:∀ b,S b→b<w.heap.size) (hv:InV w S (JV.mapV m) (.agg #[.int .i64 6,.int .i64 0,.string ⟨#[]⟩,.slice none 0 0,.slice B' m.length d'])) (hx:InV w S x (vA x C f C' f')) (hl:m.length≤1000) (hs:s.length≤140737488355328) (n k:Nat) (hn:n=m.length+1) (hk:k=m.length):
  Calls Tryz.prog 14 #[.agg #[.int .i64 6,.int .i64 0,.string ⟨#[]⟩,.slice none 0 0,.slice B' k d'],.string ⟨s.toArray⟩,.agg #[.int .i64 x.kd,.int .i64 x.nm,.string ⟨x.tx.toArray⟩,.slice C x.ls.length f,.slice C' x.ms.length f']] w fun e w'=>(∃ (D:Option Addr) (g:Nat),e=.returned (.agg #[.int .i64 6,.int .i64 0,.string ⟨#[]⟩,.slice none 0 0,.slice D n g])∧InV w' (NeS S w w') (JV.mapV (m++[(s,x)])) (.agg #[.int .i64 6,.int .i64 0,.string ⟨#[]⟩,.slice none 0 0,.slice D n g]))∧Fr w w':=by
 subst hk
 refine (raddS (JV.mapV m) x none 0 B' d' C f C' f' s w S hZ hv hx (by show m.length*96≤_;omega) hs).mono ?_
 rintro e w' ⟨D,g,K,he,hK,hm,hf⟩
 have hlen:((JV.mapV m).ms++[(s,x)]).length=n:=by rw [List.length_append];exact hn.symm
 rw [hlen] at he hm
 refine ⟨⟨D,g,he,NeS.of (hm.inV (by rw [hlen];omega)) (by omega)⟩,hf⟩
theorem radd_none (x:JV) (C:Option Addr) (f:Nat) (C':Option Addr) (f':Nat) (s:List UInt8) (w:World) (S:Nat→Prop) (hZ:∀ b,S b→b<w.heap.size) (hx:InV w S x (vA x C f C' f')) (hs:s.length≤140737488355328):
  Calls Tryz.prog 14 #[.agg #[.int .i64 0,.int .i64 0,.string ⟨#[]⟩,.slice none 0 0,.slice none 0 0],.string ⟨s.toArray⟩,.agg #[.int .i64 x.kd,.int .i64 x.nm,.string ⟨x.tx.toArray⟩,.slice C x.ls.length f,.slice C' x.ms.length f']] w fun e w'=>(∃ (D:Option Addr) (g:Nat),e=.returned (.agg #[.int .i64 6,.int .i64 0,.string ⟨#[]⟩,.slice none 0 0,.slice D 1 g])∧InV w' (NeS S w w') (JV.mapV [(s,x)]) (.agg #[.int .i64 6,.int .i64 0,.string ⟨#[]⟩,.slice none 0 0,.slice D 1 g]))∧Fr w w':=by
 refine (raddS JV.zeroV x none 0 none 0 C f C' f' s w S hZ (zeroV_in _ _) hx (by show 0*96≤_;omega) hs).mono ?_
 rintro e w' ⟨D,g,K,he,hK,hm,hf⟩
 exact ⟨⟨D,g,he,NeS.of (hm.inV (by show 1≤_;omega)) (by omega)⟩,hf⟩


theorem rresp_is (l:List CallV) (A:Option Addr) (c:Nat) (ms:List (List UInt8 × JV)) (B:Option Addr) (d:Nat) (has:Bool) (w:World) (h:CsR w A l) (hm:MsC w (Lo w.heap.size) B ms) (hl:l.length≤1048576) (hml:ms.length≤1048576) (hnm:∀ p∈l,p.1.1.length≤140737488355328∧p.2.length≤140737488355328):
  Calls Tryz.prog 16 #[.slice A l.length c,.slice B ms.length d,.bool has] w fun e w'=>(∃ (D:Option Addr) (g:Nat),e=.returned (.agg #[.int .i64 6,.int .i64 0,.string ⟨#[]⟩,.slice none 0 0,.slice D (Pt.respM l ms has).length g])∧InV w' (Lo w'.heap.size) (Pt.respV l ms has) (.agg #[.int .i64 6,.int .i64 0,.string ⟨#[]⟩,.slice none 0 0,.slice D (Pt.respM l ms has).length g]))∧Fr w w':=by
 have hl':(l.length:Int)≤1048576:=by omega
 have hml':(ms.length:Int)≤1048576:=by omega
 have HM:=Lib.hid hm
 have H:=Lib.hid h
 have HNM:=Lib.hid hnm
 clear h hnm hm
 go_enter Tryz.func16,Tryz.ntmps16
 go_upto_region 3 with fail
 have hx0:Blk ((w.alloc (.cells #[.int .i64 0,.int .i64 0,.string ⟨#[]⟩,.slice none 0 0,.slice none 0 0] 29)).alloc (.cells #[.int .i64 5,.int .i64 0,.string ⟨#[]⟩,(.slice none 0 0),.slice none 0 0] 29)) w.heap.size #[.int .i64 0,.int .i64 0,.string ⟨#[]⟩,.slice none 0 0,.slice none 0 0] 29:=(Blk.made w _ _).keep ((Fr.refl _).alloc _)
 have hy0:Blk ((w.alloc (.cells #[.int .i64 0,.int .i64 0,.string ⟨#[]⟩,.slice none 0 0,.slice none 0 0] 29)).alloc (.cells #[.int .i64 5,.int .i64 0,.string ⟨#[]⟩,(.slice none 0 0),.slice none 0 0] 29)) (w.heap.size+1) #[.int .i64 5,.int .i64 0,.string ⟨#[]⟩,(.slice none 0 0),.slice none 0 0] 29:=boxz (Blk.made (w.alloc _) _ _)
 have hf0:Fr w ((w.alloc (.cells #[.int .i64 0,.int .i64 0,.string ⟨#[]⟩,.slice none 0 0,.slice none 0 0] 29)).alloc (.cells #[.int .i64 5,.int .i64 0,.string ⟨#[]⟩,(.slice none 0 0),.slice none 0 0] 29)):=((Fr.refl w).alloc _).alloc _
 have hXY:Hid (w.heap.size≠w.heap.size+1):=Lib.hid (by omega)
 generalize ((w.alloc (.cells #[.int .i64 0,.int .i64 0,.string ⟨#[]⟩,.slice none 0 0,.slice none 0 0] 29)).alloc (.cells #[.int .i64 5,.int .i64 0,.string ⟨#[]⟩,(.slice none 0 0),.slice none 0 0] 29))=W1 at hx0 hy0 hf0 ⊢
 generalize hY:w.heap.size+1=X1 at hy0 hXY ⊢
 obtain ⟨X0,hX⟩:∃ X,w.heap.size=X:=⟨_,rfl⟩
 rw [hX] at hx0 hXY ⊢
 have HXw:Hid (w.heap.size≤X1∧X1≤W1.heap.size):=Lib.hid ⟨by omega,Nat.le_of_lt hy0.lt⟩
 have HXe:Hid (w.heap.size≤X0):=Lib.hid (Nat.le_of_eq hX)
 clear hX hY
 have HX0:=Lib.hid hx0
 have HY0:=Lib.hid hy0
 have HF0:=Lib.hid hf0
 clear hx0 hy0 hf0
 go_loopw [8] (fun j wr=>∃ (i:Nat) (lv:Value),i≤l.length∧j=.int .i64 i∧Hid (FrX X1 W1 wr)∧Hid (Blk wr X1 #[.int .i64 5,.int .i64 0,.string ⟨#[]⟩,lv,.slice none 0 0] 29)∧Hid (VsB wr w.heap.size W1.heap.size lv ((l.take i).map Pt.respC))) (fun j _=>l.length - (intOf j).toNat)
 case atStart=>exact ⟨0,_,by omega,rfl,Lib.hid (FrX.refl X1 W1),HY0,Lib.hid (VsB.none_ _ ⟨HF0.out.size,Nat.le_refl _⟩)⟩
 case round=>
  obtain ⟨i,lv,hi,rfl,hX,hBr,hV⟩:=hrel
  by_cases hlt:i<l.length
  ·have hlt':(i:Int)<(l.length:Int):=by omega
   obtain ⟨b,o,C,f,C',f',rfl,hb,a0,⟨n0,n1,n2,n3,n4⟩,a6,hxa⟩:=H.out i hlt
   obtain ⟨nm,hn⟩:∃ nm,l[i].1.1=nm:=⟨_,rfl⟩
   obtain ⟨x,hx⟩:∃ x,l[i].1.2=x:=⟨_,rfl⟩
   obtain ⟨id,hid⟩:∃ id,l[i].2=id:=⟨_,rfl⟩
   have hbn:=HNM.out _ (List.getElem_mem hlt)
   have HLI:Hid (l[i]=((nm,x),id)):=Lib.hid (by rw [← hn,← hx,← hid])
   rw [hn] at a0 hbn
   rw [hx] at n0 n1 n2 n3 n4 hxa
   rw [hid] at a6 hbn
   have hfw:Fr w wr:=Fr.thenX HF0.out HXw.out.1 HXw.out.2 hX.out
   have hwb:∀ W:World,W.heap[b]? = wr.heap[b]? → (W.cell? ⟨b,o+i*7,none⟩=some (.string ⟨nm.toArray⟩)∧(W.cell? ⟨b,o+i*7+1,none⟩=some (.int .i64 x.kd)∧W.cell? ⟨b,o+i*7+1+1,none⟩=some (.int .i64 x.nm)∧W.cell? ⟨b,o+i*7+1+2,none⟩=some (.string ⟨x.tx.toArray⟩)∧W.cell? ⟨b,o+i*7+1+3,none⟩=some (.slice C x.ls.length f)∧W.cell? ⟨b,o+i*7+1+4,none⟩=some (.slice C' x.ms.length f'))∧W.cell? ⟨b,o+i*7+6,none⟩=some (.string ⟨id.toArray⟩)):=fun W hW=>by
    have ha:∀ o,W.cell? ⟨b,o,none⟩=w.cell? ⟨b,o,none⟩:=fun o=>by
     have h1:=hfw.cell (o:=o) hb
     rw [← h1];unfold World.cell?;rw [hW]
    exact ⟨(ha _).trans a0,⟨(ha _).trans n0,(ha _).trans n1,(ha _).trans n2,(ha _).trans n3,(ha _).trans n4⟩,(ha _).trans a6⟩
   have HBN:=Lib.hid hbn
   have HXA:Hid (InV wr (Lo w.heap.size) x (vA x C f C' f')):=Lib.hid (hxa.keep (Nat.le_refl _) hfw)
   have hmin:((l.take i).map Pt.respC).length=i:=by simp;omega
   have hk80:(((l.take i).map Pt.respC).length+1)*80≤140737488355328:=by simp;omega
   have hbw:=Nat.lt_of_lt_of_le hb hfw.size
   have hX1b:b<X1:=Nat.lt_of_lt_of_le hb HXw.out.1
   clear hn hx hid hbn hxa a0 n0 n1 n2 n3 n4 a6
   have HSB:Hid (∀ W:World,(W.heap[X1]? = wr.heap[X1]? ∧ W.heap[b]? = wr.heap[b]?)→W.cell? ⟨X1,3,none⟩=some lv∧W.cell? ⟨b,o+i*7,none⟩=some (.string ⟨nm.toArray⟩)∧(W.cell? ⟨b,o+i*7+1,none⟩=some (.int .i64 x.kd)∧W.cell? ⟨b,o+i*7+1+1,none⟩=some (.int .i64 x.nm)∧W.cell? ⟨b,o+i*7+1+2,none⟩=some (.string ⟨x.tx.toArray⟩)∧W.cell? ⟨b,o+i*7+1+3,none⟩=some (.slice C x.ls.length f)∧W.cell? ⟨b,o+i*7+1+4,none⟩=some (.slice C' x.ms.length f'))∧W.cell? ⟨b,o+i*7+6,none⟩=some (.string ⟨id.toArray⟩)):=Lib.hid (fun W hW=>by
    have y:Blk W X1 _ _:=hW.1.trans hBr.out
    exact ⟨y.cell 3,hwb W hW.2⟩)
   have hl9:=hBr.out.lt
   have HSW:Hid (∀ W,Fr wr W→W.cell? ⟨X1,3,none⟩=some lv∧W.cell? ⟨b,o+i*7,none⟩=some (.string ⟨nm.toArray⟩)∧(W.cell? ⟨b,o+i*7+1,none⟩=some (.int .i64 x.kd)∧W.cell? ⟨b,o+i*7+1+1,none⟩=some (.int .i64 x.nm)∧W.cell? ⟨b,o+i*7+1+2,none⟩=some (.string ⟨x.tx.toArray⟩)∧W.cell? ⟨b,o+i*7+1+3,none⟩=some (.slice C x.ls.length f)∧W.cell? ⟨b,o+i*7+1+4,none⟩=some (.slice C' x.ms.length f'))∧W.cell? ⟨b,o+i*7+6,none⟩=some (.string ⟨id.toArray⟩)):=Lib.hid (fun W hW=>HSB.out W ⟨Below.block hW _ hl9,Below.block hW _ hbw⟩)
   have hown:∀ k,lv.ownBlock=some k→W1.heap.size≤k:=fun k hk=>(hV.out.own_lt hk).1
   have hW1:X1<W1.heap.size:=HY0.out.lt
   have hx9:∀ W,Fr wr W → ∀ w9,((W.alloc (.cells #[.int .i64 4,.int .i64 0,.string ⟨nm.toArray⟩,.slice none 0 0,.slice none 0 0,.int .i64 x.kd,.int .i64 x.nm,.string ⟨x.tx.toArray⟩,.slice C x.ls.length f,.slice C' x.ms.length f',.int .i64 4,.int .i64 0,.string ⟨id.toArray⟩,.slice none 0 0,.slice none 0 0] 29)).alloc (.cells #[.int .i64 5,.int .i64 0,.string ⟨#[]⟩,.slice (some ⟨W.heap.size,0,none⟩) 3 3,.slice none 0 0] 29)).grownBy w9 lv.ownBlock→(w9.heap[X1]? = wr.heap[X1]? ∧ w9.heap[b]? = wr.heap[b]?):=fun W hW w9 hg=>by
    have h2:=(hW.alloc (.cells #[.int .i64 4,.int .i64 0,.string ⟨nm.toArray⟩,.slice none 0 0,.slice none 0 0,.int .i64 x.kd,.int .i64 x.nm,.string ⟨x.tx.toArray⟩,.slice C x.ls.length f,.slice C' x.ms.length f',.int .i64 4,.int .i64 0,.string ⟨id.toArray⟩,.slice none 0 0,.slice none 0 0] 29)).alloc (.cells #[.int .i64 5,.int .i64 0,.string ⟨#[]⟩,.slice (some ⟨W.heap.size,0,none⟩) 3 3,.slice none 0 0] 29)
    exact ⟨(hg.block X1 (Nat.lt_of_lt_of_le hl9 h2.size) (fun e=>by have:=hown X1 e.symm;omega)).trans (Below.block h2 _ hl9),(hg.block b (Nat.lt_of_lt_of_le hbw h2.size) (fun e=>by have:=hown b e.symm;omega)).trans (Below.block h2 _ hbw)⟩
   have hfx9:∀ W,Fr wr W → ∀ w9,((W.alloc (.cells #[.int .i64 4,.int .i64 0,.string ⟨nm.toArray⟩,.slice none 0 0,.slice none 0 0,.int .i64 x.kd,.int .i64 x.nm,.string ⟨x.tx.toArray⟩,.slice C x.ls.length f,.slice C' x.ms.length f',.int .i64 4,.int .i64 0,.string ⟨id.toArray⟩,.slice none 0 0,.slice none 0 0] 29)).alloc (.cells #[.int .i64 5,.int .i64 0,.string ⟨#[]⟩,.slice (some ⟨W.heap.size,0,none⟩) 3 3,.slice none 0 0] 29)).grownBy w9 lv.ownBlock→FrX X1 W1 w9:=fun W hW w9 hg=>FrX.grown2 (hX.out.fr ((hW.alloc (.cells #[.int .i64 4,.int .i64 0,.string ⟨nm.toArray⟩,.slice none 0 0,.slice none 0 0,.int .i64 x.kd,.int .i64 x.nm,.string ⟨x.tx.toArray⟩,.slice C x.ls.length f,.slice C' x.ms.length f',.int .i64 4,.int .i64 0,.string ⟨id.toArray⟩,.slice none 0 0,.slice none 0 0] 29)).alloc (.cells #[.int .i64 5,.int .i64 0,.string ⟨#[]⟩,.slice (some ⟨W.heap.size,0,none⟩) 3 3,.slice none 0 0] 29))) hg hown
   have HVK:Hid (∀ W,Fr wr W→VsB W w.heap.size W1.heap.size lv ((l.take i).map Pt.respC)):=Lib.hid (fun W hW=>hV.out.keep hW)
   have HRC:Hid (∀ W,Fr wr W→InV (W.alloc (.cells #[.int .i64 4,.int .i64 0,.string ⟨nm.toArray⟩,.slice none 0 0,.slice none 0 0,.int .i64 x.kd,.int .i64 x.nm,.string ⟨x.tx.toArray⟩,.slice C x.ls.length f,.slice C' x.ms.length f',.int .i64 4,.int .i64 0,.string ⟨id.toArray⟩,.slice none 0 0,.slice none 0 0] 29)) (InB w.heap.size W1.heap.size (W.alloc (.cells #[.int .i64 4,.int .i64 0,.string ⟨nm.toArray⟩,.slice none 0 0,.slice none 0 0,.int .i64 x.kd,.int .i64 x.nm,.string ⟨x.tx.toArray⟩,.slice C x.ls.length f,.slice C' x.ms.length f',.int .i64 4,.int .i64 0,.string ⟨id.toArray⟩,.slice none 0 0,.slice none 0 0] 29)) lv) (Pt.respC ((nm,x),id)) (.agg #[.int .i64 5,.int .i64 0,.string ⟨#[]⟩,.slice (some ⟨W.heap.size,0,none⟩) 3 3,.slice none 0 0])):=Lib.hid (fun W hW=>by
    have hal:=(Fr.refl W).alloc (.cells #[.int .i64 4,.int .i64 0,.string ⟨nm.toArray⟩,.slice none 0 0,.slice none 0 0,.int .i64 x.kd,.int .i64 x.nm,.string ⟨x.tx.toArray⟩,.slice C x.ls.length f,.slice C' x.ms.length f',.int .i64 4,.int .i64 0,.string ⟨id.toArray⟩,.slice none 0 0,.slice none 0 0] 29)
    have hs:=hW.size
    refine three_in _ nm id x C f C' f' rfl (.inr ⟨Nat.le_trans hX.out.size hs,by simp,fun e=>?_⟩) HBN.out.1 HBN.out.2 ?_
    ·obtain ⟨_,xs,hvb,_⟩:=hV.out
     have:=(hvb.own_lt e).2
     omega
    ·exact (HXA.out.keep (Nat.le_trans HF0.out.size hX.out.size) (hW.trans hal)).more (fun b hb=>.inl hb))
   clear hwb hb hfw hbw
   go_upto_region 5 with fail
   refine OrdL.begin (x:=24) (fun W=>W.cell? ⟨X1,3,none⟩=some lv∧W.cell? ⟨b,o+i*7,none⟩=some (.string ⟨nm.toArray⟩)∧(W.cell? ⟨b,o+i*7+1,none⟩=some (.int .i64 x.kd)∧W.cell? ⟨b,o+i*7+1+1,none⟩=some (.int .i64 x.nm)∧W.cell? ⟨b,o+i*7+1+2,none⟩=some (.string ⟨x.tx.toArray⟩)∧W.cell? ⟨b,o+i*7+1+3,none⟩=some (.slice C x.ls.length f)∧W.cell? ⟨b,o+i*7+1+4,none⟩=some (.slice C' x.ms.length f'))∧W.cell? ⟨b,o+i*7+6,none⟩=some (.string ⟨id.toArray⟩)) (by kernel_rfl) ?_ (fun hH=>?_)
   ·exact HSW.out _ (Fr.refl _).drew
   refine OrdL.take (i:=0) (v:=?_) [1,22] rfl (by kernel_rfl) (by kernel_rfl) (by kernel_rfl) (by kernel_rfl) (fun _ _ _ h=>h) (Or.inl ⟨by rfl,?_⟩) hH ?_
   rotate_left
   ·(intro w' hSw;(try dsimp only at hSw);go_simp;try with_reducible rfl)
   try simp only [Act.put,fl]
   refine OrdL.take (i:=1) (v:=?_) [22] rfl (by kernel_rfl) (by kernel_rfl) (by kernel_rfl) (by kernel_rfl) (fun _ _ _ h=>h) (Or.inl ⟨by rfl,?_⟩) hH ?_
   rotate_left
   ·(intro w' hSw;(try dsimp only at hSw);go_simp;try with_reducible rfl)
   try simp only [Act.put,fl]
   refine OrdL.take (i:=2) (v:=?_) [4,5,6,7,19,20,21,22] rfl (by kernel_rfl) (by kernel_rfl) (by kernel_rfl) (by kernel_rfl) (fun _ _ _ h=>h) (Or.inl ⟨by rfl,?_⟩) hH ?_
   rotate_left
   ·(intro w' hSw;(try dsimp only at hSw);go_simp;try with_reducible rfl)
   try simp only [Act.put,fl]
   refine OrdL.take (i:=3) (v:=?_) [4,5,6,7,19,20,21,22] rfl (by kernel_rfl) (by kernel_rfl) (by kernel_rfl) (by kernel_rfl) (fun _ _ _ h=>h) (Or.inl ⟨by rfl,?_⟩) hH ?_
   rotate_left
   ·(intro w' hSw;(try dsimp only at hSw);go_simp;try with_reducible rfl)
   try simp only [Act.put,fl]
   refine OrdL.take (i:=4) (v:=?_) [5,6,7,19,20,21,22] rfl (by kernel_rfl) (by kernel_rfl) (by kernel_rfl) (by kernel_rfl) (fun _ _ _ h=>h) (Or.inl ⟨by rfl,?_⟩) hH ?_
   rotate_left
   ·(intro w' hSw;(try dsimp only at hSw);go_simp;try with_reducible rfl)
   try simp only [Act.put,fl]
   refine OrdL.take (i:=5) (v:=?_) [6,7,19,20,21,22] rfl (by kernel_rfl) (by kernel_rfl) (by kernel_rfl) (by kernel_rfl) (fun _ _ _ h=>h) (Or.inl ⟨by rfl,?_⟩) hH ?_
   rotate_left
   ·(intro w' hSw;(try dsimp only at hSw);go_simp;try with_reducible rfl)
   try simp only [Act.put,fl]
   refine OrdL.take (i:=6) (v:=?_) [7,19,20,21,22] rfl (by kernel_rfl) (by kernel_rfl) (by kernel_rfl) (by kernel_rfl) (fun _ _ _ h=>h) (Or.inl ⟨by rfl,?_⟩) hH ?_
   rotate_left
   ·(intro w' hSw;(try dsimp only at hSw);go_simp;try with_reducible rfl)
   try simp only [Act.put,fl]
   refine OrdL.take (i:=8) (v:=?_) [10,11,12,19,20,21,22] rfl (by kernel_rfl) (by kernel_rfl) (by kernel_rfl) (by kernel_rfl) (fun _ _ _ h=>h) (Or.inl ⟨by rfl,?_⟩) hH ?_
   rotate_left
   ·(intro w' hSw;(try dsimp only at hSw);go_simp;try with_reducible rfl)
   try simp only [Act.put,fl]
   refine OrdL.take (i:=9) (v:=?_) [10,11,12,19,20,21,22] rfl (by kernel_rfl) (by kernel_rfl) (by kernel_rfl) (by kernel_rfl) (fun _ _ _ h=>h) (Or.inl ⟨by rfl,?_⟩) hH ?_
   rotate_left
   ·(intro w' hSw;(try dsimp only at hSw);go_simp;try with_reducible rfl)
   try simp only [Act.put,fl]
   refine OrdL.take (i:=10) (v:=?_) [11,12,19,20,21,22] rfl (by kernel_rfl) (by kernel_rfl) (by kernel_rfl) (by kernel_rfl) (fun _ _ _ h=>h) (Or.inl ⟨by rfl,?_⟩) hH ?_
   rotate_left
   ·(intro w' hSw;(try dsimp only at hSw);go_simp;try with_reducible rfl)
   try simp only [Act.put,fl]
   refine OrdL.take (i:=11) (v:=?_) [12,19,20,21,22] rfl (by kernel_rfl) (by kernel_rfl) (by kernel_rfl) (by kernel_rfl) (fun _ _ _ h=>h) (Or.inl ⟨by rfl,?_⟩) hH ?_
   rotate_left
   ·(intro w' hSw;(try dsimp only at hSw);go_simp;try with_reducible rfl)
   try simp only [Act.put,fl]
   refine OrdL.take (i:=12) (v:=?_) [19,20,21,22] rfl (by kernel_rfl) (by kernel_rfl) (by kernel_rfl) (by kernel_rfl) (fun _ _ _ h=>h) (Or.inl ⟨by rfl,?_⟩) hH ?_
   rotate_left
   ·(intro w' hSw;(try dsimp only at hSw);go_simp;try with_reducible rfl)
   try simp only [Act.put,fl]
   refine OrdL.take (i:=13) (v:=?_) [15,16,17,18,19,20,21,22] rfl (by kernel_rfl) (by kernel_rfl) (by kernel_rfl) (by kernel_rfl) (fun _ _ _ h=>h) (Or.inl ⟨by rfl,?_⟩) hH ?_
   rotate_left
   ·(intro w' hSw;(try dsimp only at hSw);go_simp;try with_reducible rfl)
   try simp only [Act.put,fl]
   refine OrdL.take (i:=14) (v:=?_) [15,16,17,18,19,20,21,22] rfl (by kernel_rfl) (by kernel_rfl) (by kernel_rfl) (by kernel_rfl) (fun _ _ _ h=>h) (Or.inl ⟨by rfl,?_⟩) hH ?_
   rotate_left
   ·(intro w' hSw;(try dsimp only at hSw);go_simp;try with_reducible rfl)
   try simp only [Act.put,fl]
   refine OrdL.take (i:=15) (v:=?_) [16,17,18,19,20,21,22] rfl (by kernel_rfl) (by kernel_rfl) (by kernel_rfl) (by kernel_rfl) (fun _ _ _ h=>h) (Or.inl ⟨by rfl,?_⟩) hH ?_
   rotate_left
   ·(intro w' hSw;(try dsimp only at hSw);go_simp;try with_reducible rfl)
   try simp only [Act.put,fl]
   refine OrdL.take (i:=16) (v:=?_) [17,18,19,20,21,22] rfl (by kernel_rfl) (by kernel_rfl) (by kernel_rfl) (by kernel_rfl) (fun _ _ _ h=>h) (Or.inl ⟨by rfl,?_⟩) hH ?_
   rotate_left
   ·(intro w' hSw;(try dsimp only at hSw);go_simp;try with_reducible rfl)
   try simp only [Act.put,fl]
   refine OrdL.take (i:=17) (v:=?_) [18,19,20,21,22] rfl (by kernel_rfl) (by kernel_rfl) (by kernel_rfl) (by kernel_rfl) (fun _ _ _ h=>h) (Or.inl ⟨by rfl,?_⟩) hH ?_
   rotate_left
   ·(intro w' hSw;(try dsimp only at hSw);go_simp;try with_reducible rfl)
   try simp only [Act.put,fl]
   refine OrdL.one (i:=7) rfl (by kernel_rfl) (by rfl) (fun K hK=>?_)
   (go_simp;go_at_call 15;refine (rtxt_is _ _).mono ?_;rintro e w1 ⟨rfl,hf⟩;have HG1:=Lib.hid ((Fr.refl wr).drew.trans hf);clear hf)
   refine hK.out _ _ (HSW.out _ HG1.out) (fun hH1=>?_)
   clear hK K
   try simp only [Act.put,fl]
   refine OrdL.one (i:=18) rfl (by kernel_rfl) (by rfl) (fun K hK=>?_)
   (go_simp;go_at_call 15;refine (rtxt_is _ _).mono ?_;rintro e w2 ⟨rfl,hf⟩;have HG2:=Lib.hid (HG1.out.trans hf);clear hf)
   refine hK.out _ _ (HSW.out _ HG2.out) (fun hH2=>?_)
   clear hK K
   try simp only [Act.put,fl]
   refine OrdL.one (i:=19) rfl (by kernel_rfl) (by rfl) (fun K hK=>?_)
   go_simp
   refine hK.out _ _ (HSW.out _ (HG2.out.alloc _)) (fun hH3=>?_)
   clear hK K
   try simp only [Act.put,fl]
   refine OrdL.take (i:=20) (v:=?_) [21,22] rfl (by kernel_rfl) (by kernel_rfl) (by kernel_rfl) (by kernel_rfl) (fun _ _ _ h=>h) (Or.inl ⟨by rfl,?_⟩) hH3 ?_
   rotate_left
   ·(intro w' hSw;(try dsimp only at hSw);go_simp;try with_reducible rfl)
   try simp only [Act.put,fl]
   refine OrdL.one (i:=21) rfl (by kernel_rfl) (by rfl) (fun K hK=>?_)
   go_simp
   refine hK.out _ _ (HSW.out _ ((HG2.out.alloc _).alloc _)) (fun hH4=>?_)
   clear hK K
   try simp only [Act.put,fl]
   have HG3:=Lib.hid (HG2.out.alloc (.cells #[.int .i64 4,.int .i64 0,.string ⟨nm.toArray⟩,.slice none 0 0,.slice none 0 0,.int .i64 x.kd,.int .i64 x.nm,.string ⟨x.tx.toArray⟩,.slice C x.ls.length f,.slice C' x.ms.length f',.int .i64 4,.int .i64 0,.string ⟨id.toArray⟩,.slice none 0 0,.slice none 0 0] 29))
   have hin3:=HRC.out w2 HG2.out
   have hv3:=HVK.out _ HG3.out
   refine OrdL.one (i:=22) rfl (by kernel_rfl) (by rfl) (fun K hK=>?_)
   refine step_vB_lit rfl (.tmp 20) (.tmp 40) rfl w.heap.size W1.heap.size lv ((l.take i).map Pt.respC) rfl hv3 (Pt.respC ((nm,x),id)) (some ⟨w2.heap.size,0,none⟩) 3 none 0 rfl hin3 (by show Value.slice (some ⟨w2.heap.size+1,0,none⟩) 1 1=_;simp) hk80 ?_
   intro v9 w9 hs9 hg9 ho9
   obtain ⟨A9,c9,rfl⟩:=hs9.is_slice
   have hxs9:=hx9 w2 HG2.out w9 hg9
   refine hK.out _ _ (HSB.out _ hxs9) (fun hH5=>?_)
   clear hK K
   try simp only [Act.put,fl]
   have hb9:Blk w9 X1 _ _:=hxs9.1.trans hBr.out
   obtain ⟨⟨y0,y1,y2,y3,y4⟩,yf0,yf1,yf2,yf3,yf4⟩:=box5 hb9
   have hf9:=hfx9 w2 HG2.out w9 hg9
   refine OrdL.take (i:=23) (v:=?_) [] rfl (by kernel_rfl) (by kernel_rfl) (by kernel_rfl) (by kernel_rfl) (fun _ _ _ h=>h) (Or.inl ⟨by rfl,?_⟩) hH5 ?_
   rotate_left
   ·(intro w' hSw;(try dsimp only at hSw);go_simp;try with_reducible rfl)
   try simp only [Act.put,fl]
   refine OrdL.last rfl (by kernel_rfl) (by kernel_rfl) (fun K hK=>?_)
   go_simp
   refine hK.out _ _ ?_
   clear hK K
   try simp only [Act.put,fl]
   go_wp2_with fail
   exact ⟨⟨i+1,_,by omega,by go_num,Lib.hid (hf9.setCell rfl _),Lib.hid (hb9.set 3 _),Lib.hid (by rw [Pt.respC_take hlt,HLI.out];have hq:=hs9.frx HXw.out.1 HY0.out.lt ((FrX.refl X1 w9).setCell (p:=⟨X1,3,none⟩) rfl (.slice A9 (i+1) c9));rw [List.length_append,hmin] at hq;exact hq)⟩,by simp [intOf];omega⟩
  ·obtain rfl:i=l.length:=by omega
   have hfw:Fr w wr:=Fr.thenX HF0.out HXw.out.1 HXw.out.2 hX.out
   have hv:=hV.out
   rw [List.take_length] at hv
   obtain ⟨A5,c5,rfl⟩:=hv.is_slice
   have hll:(l.map Pt.respC).length=l.length:=by simp
   rw [hll] at hv hBr
   have hin:=hv.inV (by rw [hll];omega)
   obtain ⟨SL,hSL⟩:∃ SL:Nat→Prop,SL=(fun b=>b<w.heap.size∨(W1.heap.size≤b∧b<wr.heap.size)):=⟨_,rfl⟩
   rw [← hSL] at hin
   have hSb:∀ b,SL b→b<wr.heap.size:=fun b hb=>by rw [hSL] at hb;rcases hb with hb | hb;exact Nat.lt_of_lt_of_le hb hfw.size;exact hb.2
   have HSX:Hid (∀ b,SL b→b≠X0):=Lib.hid (fun b hb e=>by rw [hSL] at hb;have:=HX0.out.lt;have:=HXe.out;rcases hb with hb | hb <;> omega)
   clear hSL
   have HAD:Hid (∀ V,Fr wr V→Calls Tryz.prog 14 #[.agg #[.int .i64 0,.int .i64 0,.string ⟨#[]⟩,.slice none 0 0,.slice none 0 0],.string ⟨#[109,101,116,104,111,100,82,101,115,112,111,110,115,101,115]⟩,.agg #[.int .i64 5,.int .i64 0,.string ⟨#[]⟩,(.slice A5 l.length c5),.slice none 0 0]] V fun e w'=>(∃ (D:Option Addr) (g:Nat),e=.returned (.agg #[.int .i64 6,.int .i64 0,.string ⟨#[]⟩,.slice none 0 0,.slice D 1 g])∧InV w' (NeS SL V w') (JV.mapV [(Pt.nResp,JV.listV (l.map Pt.respC))]) (.agg #[.int .i64 6,.int .i64 0,.string ⟨#[]⟩,.slice none 0 0,.slice D 1 g]))∧Fr V w'):=Lib.hid (fun V hV2=>by
    have h1:=radd_none (JV.listV (l.map Pt.respC)) A5 c5 none 0 [109,101,116,104,111,100,82,101,115,112,111,110,115,101,115] V SL (ltS hSb hV2) (by
     have:=hin.keepS hSb hV2
     simpa [JV.listV,vA,JV.kd,JV.nm,JV.tx,JV.ls,JV.ms] using this) (by simp)
    have e2:(JV.listV (l.map Pt.respC)).ls.length=l.length:=by simp [JV.listV,JV.ls]
    rw [e2] at h1
    exact h1)
   have HSb:=Lib.hid hSb
   have HFW:=Lib.hid hfw
   obtain ⟨⟨y0,y1,y2,y3,y4⟩,_⟩:=box5 hBr.out
   have hx0r:=HX0.out.frx hX.out hXY.out
   have HX0R:=Lib.hid hx0r
   have hXwr:X1<wr.heap.size:=hBr.out.lt
   have hX0r:X0<wr.heap.size:=hx0r.lt
   clear hfw hv hin hx0r hSb
   go_upto_region 7 with (go_at_call 14;refine (HAD.out _ (Fr.refl wr)).mono ?_;rintro e w2 ⟨⟨D,g,rfl,hi2⟩,hf⟩;have HF2:=Lib.hid hf;have HI2:=Lib.hid hi2;clear hf hi2)
   have hb3:=Blk.made w2 #[.int .i64 6,.int .i64 0,.string ⟨#[]⟩,.slice none 0 0,(.slice D 1 g)] 29
   have hf3:Fr w2 (w2.alloc (.cells #[.int .i64 6,.int .i64 0,.string ⟨#[]⟩,.slice none 0 0,(.slice D 1 g)] 29)):=(Fr.refl w2).alloc _
   obtain ⟨SV,hSV⟩:∃ SV:Nat→Prop,SV=NeS SL wr w2:=⟨_,rfl⟩
   have hi2:=HI2.out
   rw [← hSV] at hi2
   have hSVl:∀ b,SV b→b<w2.heap.size∧b≠X0:=fun b hb=>by
    rw [hSV] at hb
    have h1:=HF2.out.size
    rcases hb with hb | hb
    ·have:=HSb.out b hb;exact ⟨by omega,HSX.out b hb⟩
    ·exact ⟨hb.2,by have:=hb.1;omega⟩
   have hi3:=hi2.keepS (fun b hb=>(hSVl b hb).1) hf3
   have hx3:=(HX0R.out.keep HF2.out).keep hf3
   have hfr3:=(HFW.out.trans HF2.out).trans hf3
   have hX02:X0<w2.heap.size:=(HX0R.out.keep HF2.out).lt
   have hw2:w.heap.size≤w2.heap.size:=(HFW.out.trans HF2.out).size
   have hlt3:=hb3.lt
   clear hi2 hSV y0 y1 y2 y3 y4
   generalize (w2.alloc (.cells #[.int .i64 6,.int .i64 0,.string ⟨#[]⟩,.slice none 0 0,(.slice D 1 g)] 29))=W3 at hb3 hf3 hi3 hx3 hfr3 hlt3 ⊢
   clear hf3
   have HNX:Hid (∀ k,SV k→k≠X0):=Lib.hid (fun b hb=>(hSVl b hb).2)
   have hSV3:∀ k,SV k→k<w2.heap.size:=fun b hb=>(hSVl b hb).1
   have HSV3:=Lib.hid hSV3
   clear hSVl hSV3 HAD
   generalize w2.heap.size=X9 at hb3 hlt3 hX02 hw2 HSV3 ⊢
   have HIN:Hid (InV W3 SV (JV.mapV [(Pt.nResp,JV.listV (l.map Pt.respC))]) (.agg #[.int .i64 6,.int .i64 0,.string ⟨#[]⟩,.slice none 0 0,.slice D 1 g]) ∧ ∀ b,SV b→b<W3.heap.size):=Lib.hid ⟨hi3,fun b hb=>Nat.lt_trans (HSV3.out b hb) hlt3⟩
   have HB9:=Lib.hid hb3
   have HX9:=Lib.hid hx3
   have HFW9:=Lib.hid hfr3
   clear hb3 hx3 hfr3 hi3
   cases has with
   | false=>
    go_upto_region 14 with fail
    have HS9:Hid (∀ V,Fr W3 V→V.cell? ⟨X9,0,none⟩=some (.int .i64 6)∧V.cell? ⟨X9,0+1,none⟩=some (.int .i64 0)∧V.cell? ⟨X9,0+2,none⟩=some (.string ⟨#[]⟩)∧V.cell? ⟨X9,0+3,none⟩=some (.slice none 0 0)∧V.cell? ⟨X9,0+4,none⟩=some (.slice D 1 g)):=Lib.hid (fun V hV=>by
     have a:=HB9.out.keep hV
     exact ⟨a.cell 0,a.cell 1,a.cell 2,a.cell 3,a.cell 4⟩)
    have HAD:Hid (∀ V,Fr W3 V→Calls Tryz.prog 14 #[.agg #[.int .i64 6,.int .i64 0,.string ⟨#[]⟩,.slice none 0 0,.slice D 1 g],.string ⟨#[115,101,115,115,105,111,110,83,116,97,116,101]⟩,.agg #[.int .i64 4,.int .i64 0,.string ⟨#[48]⟩,.slice none 0 0,.slice none 0 0]] V fun e w'=>(∃ (D9:Option Addr) (g9:Nat),e=.returned (.agg #[.int .i64 6,.int .i64 0,.string ⟨#[]⟩,.slice none 0 0,.slice D9 2 g9])∧InV w' (NeS SV V w') (JV.mapV ([(Pt.nResp,JV.listV (l.map Pt.respC))]++[(Pt.nState,JV.textV [48])])) (.agg #[.int .i64 6,.int .i64 0,.string ⟨#[]⟩,.slice none 0 0,.slice D9 2 g9]))∧Fr V w'):=Lib.hid (fun V hV=>radd_map ([(Pt.nResp,JV.listV (l.map Pt.respC))]) (JV.textV [48]) D g none 0 none 0 [115,101,115,115,105,111,110,83,116,97,116,101] V SV (ltS HIN.out.2 hV) (HIN.out.1.keepS HIN.out.2 hV) (txt_in _ _ _ (by simp)) (by simp) (by simp) 2 1 rfl rfl)
    go_upto_region 14 with fail
    refine OrdL.begin (x:=3) (fun W=>W.cell? ⟨X9,0,none⟩=some (.int .i64 6)∧W.cell? ⟨X9,0+1,none⟩=some (.int .i64 0)∧W.cell? ⟨X9,0+2,none⟩=some (.string ⟨#[]⟩)∧W.cell? ⟨X9,0+3,none⟩=some (.slice none 0 0)∧W.cell? ⟨X9,0+4,none⟩=some (.slice D 1 g)) (by kernel_rfl) ?_ (fun hH=>?_)
    ·exact HS9.out _ (Fr.refl _).drew
    refine OrdL.take (i:=0) (v:=?_) [2] rfl (by kernel_rfl) (by kernel_rfl) (by kernel_rfl) (by kernel_rfl) (fun _ _ _ h=>h) (Or.inl ⟨by rfl,?_⟩) hH ?_
    rotate_left
    ·(intro w' hSw;(try dsimp only at hSw);go_simp;try with_reducible rfl)
    try simp only [Act.put,fl]
    refine OrdL.one (i:=1) rfl (by kernel_rfl) (by rfl) (fun K hK=>?_)
    (go_simp;go_at_call 15;refine (rtxt_is _ _).mono ?_;rintro e w4 ⟨rfl,hf⟩;have HG4:Hid (Fr W3 w4):=Lib.hid ((Fr.refl W3).drew.trans hf);clear hf)
    refine hK.out _ _ (HS9.out _ HG4.out) (fun hH3=>?_)
    clear hK K
    try simp only [Act.put,fl]
    refine OrdL.one (i:=2) rfl (by kernel_rfl) (by rfl) (fun K hK=>?_)
    (go_simp;go_at_call 14;refine (HAD.out _ HG4.out).mono ?_;rintro e w5 ⟨⟨D9,g9,rfl,hi9⟩,hf⟩;have HG5:Hid (Fr W3 w5):=Lib.hid (HG4.out.trans hf);have HI9:=Lib.hid hi9;have hsz4:=HG4.out.size;clear hf hi9)
    refine hK.out _ _ (HS9.out _ HG5.out) (fun hH4=>?_)
    clear hK K
    try simp only [Act.put,fl]
    obtain ⟨⟨y0,y1,y2,y3,y4⟩,yf0,yf1,yf2,yf3,yf4⟩:=box5 (HX9.out.keep HG5.out)
    refine OrdL.last rfl (by kernel_rfl) (by kernel_rfl) (fun K hK=>?_)
    go_simp
    refine hK.out _ _ ?_
    clear hK K
    try simp only [Act.put,fl]
    go_wp2_with fail
    refine bodyPost_ret (results_cv (by rfl) rfl _ X0 (by rfl) _ _ _ _ _ (set5 (HX9.out.keep HG5.out))) rfl ?_
    try (have hacc:=HACC.out;subst hacc)
    refine ⟨⟨D9,g9,rfl,?_⟩,st5_fr (HFW9.out.trans HG5.out) HXe.out _ _ _ _ _⟩
    have hsz5:=HG5.out.size
    have hlow:∀ k,NeS SV w4 w5 k→k<w5.heap.size∧k≠X0:=fun k hk=>by
     rcases hk with hk | hk
     ·have:=HIN.out.2 k hk;exact ⟨by omega,HNX.out k hk⟩
     ·exact ⟨hk.2,by have:=HX9.out.lt;omega⟩
    exact (HI9.out.frxS hlow (st5_frx w5 X0 (.int .i64 6) (.int .i64 0) (.string ⟨#[]⟩) (.slice none 0 0) (.slice D9 2 g9))).more (fun k hk=>by have h1:=(hlow k hk).1;have h2:=st5_size w5 X0 (.int .i64 6) (.int .i64 0) (.string ⟨#[]⟩) (.slice none 0 0) (.slice D9 2 g9);exact Nat.lt_of_lt_of_eq h1 h2.symm)
   | true=>
    go_upto_region 10 with fail
    have hb5:=Blk.made W3 #[.int .i64 6,.int .i64 0,.string ⟨#[]⟩,.slice none 0 0,(.slice none 0 0)] 29
    have hf5:Fr W3 (W3.alloc (.cells #[.int .i64 6,.int .i64 0,.string ⟨#[]⟩,.slice none 0 0,(.slice none 0 0)] 29)):=(Fr.refl W3).alloc _
    have hi5:=HIN.out.1.keepS HIN.out.2 hf5
    have ho5:=HB9.out.keep hf5
    have hx5:=HX9.out.keep hf5
    have hfr5:=HFW9.out.trans hf5
    have hlt5:=hb5.lt
    clear HIN HB9 HX9 HFW9
    generalize (W3.alloc (.cells #[.int .i64 6,.int .i64 0,.string ⟨#[]⟩,.slice none 0 0,(.slice none 0 0)] 29))=W5 at hb5 hf5 hi5 ho5 hx5 hfr5 hlt5 ⊢
    clear hf5
    generalize W3.heap.size=X10 at hb5 hlt3 hlt5 ⊢
    have HB5:=Lib.hid hb5
    have HI5:=Lib.hid hi5
    have HO5:=Lib.hid ho5
    have HX5:=Lib.hid hx5
    have HFR5:=Lib.hid hfr5
    clear hb5 hi5 ho5 hx5 hfr5 hX hBr hV hi hlt HF2 HI2 HX0R HFW
    obtain ⟨WQ,hq⟩:∃ W,W=wr:=⟨wr,rfl⟩
    subst hq
    go_loopw [11] (fun j wr=>∃ (i:Nat) (E:Option Addr) (e:Nat),i≤ms.length∧j=.int .i64 i∧Hid (FrX X10 W5 wr)∧Hid (Blk wr X10 #[.int .i64 6,.int .i64 0,.string ⟨#[]⟩,.slice none 0 0,(.slice E (Pt.foldW (ms.take i)).length e)] 29)∧Hid (InV wr (SB w.heap.size W5.heap.size wr) (JV.mapV (Pt.foldW (ms.take i))) (.agg #[.int .i64 6,.int .i64 0,.string ⟨#[]⟩,.slice none 0 0,.slice E (Pt.foldW (ms.take i)).length e]))) (fun j _=>ms.length - (intOf j).toNat)
    case atStart=>
     have h0:Pt.foldW (ms.take 0)=[]:=rfl
     refine ⟨0,none,0,by omega,rfl,Lib.hid (FrX.refl X10 W5),?_,?_⟩
     ·rw [h0];exact HB5
     ·rw [h0]
      exact Lib.hid (((MgS.none_ W5 (S:=fun _=>False) (K:=W5.heap.size) ⟨fun b hb=>hb.elim,Nat.le_refl _⟩).inV (by simp)).more (fun b hb=>by rcases hb with hb | hb;exact hb.elim;omega))
    case round=>
     obtain ⟨i,E,e,hi,rfl,hX,hBr,hV⟩:=hrel
     have hfw:Fr w wr:=Fr.thenX HFR5.out (by omega) (Nat.le_of_lt hlt5) hX.out
     by_cases hlt:i<ms.length
     ·have hlt':(i:Int)<(ms.length:Int):=by omega
      obtain ⟨b,o,C,f,C',f',rfl,hb,hnl,a0,⟨n0,n1,n2,n3,n4⟩,hxa⟩:=HM.out i hlt
      have hnext:=Pt.foldW_take hlt
      have hlen:=Pt.foldW_len ms i hi
      obtain ⟨nm,hn⟩:∃ nm,ms[i].1=nm:=⟨_,rfl⟩
      obtain ⟨x,hx⟩:∃ x,ms[i].2=x:=⟨_,rfl⟩
      obtain ⟨acc,hac⟩:∃ acc,Pt.foldW (ms.take i)=acc:=⟨_,rfl⟩
      rw [hn] at a0 hnl hnext
      rw [hx] at n0 n1 n2 n3 n4 hxa hnext
      rw [hac] at hBr hV hnext hlen
      have HS12:Hid (∀ W,Fr wr W→(W.cell? ⟨X10,0,none⟩=some (.int .i64 6)∧W.cell? ⟨X10,0+1,none⟩=some (.int .i64 0)∧W.cell? ⟨X10,0+2,none⟩=some (.string ⟨#[]⟩)∧W.cell? ⟨X10,0+3,none⟩=some (.slice none 0 0)∧W.cell? ⟨X10,0+4,none⟩=some (.slice E acc.length e))∧W.cell? ⟨b,o+i*6,none⟩=some (.string ⟨nm.toArray⟩)∧(W.cell? ⟨b,o+i*6+1,none⟩=some (.int .i64 x.kd)∧W.cell? ⟨b,o+i*6+1+1,none⟩=some (.int .i64 x.nm)∧W.cell? ⟨b,o+i*6+1+2,none⟩=some (.string ⟨x.tx.toArray⟩)∧W.cell? ⟨b,o+i*6+1+3,none⟩=some (.slice C x.ls.length f)∧W.cell? ⟨b,o+i*6+1+4,none⟩=some (.slice C' x.ms.length f'))):=Lib.hid (fun W hW=>by
       have y:=hBr.out.keep hW
       have ha:∀ o,W.cell? ⟨b,o,none⟩=w.cell? ⟨b,o,none⟩:=fun o=>(hfw.trans hW).cell hb
       exact ⟨⟨y.cell 0,y.cell 1,y.cell 2,y.cell 3,y.cell 4⟩,(ha _).trans a0,(ha _).trans n0,(ha _).trans n1,(ha _).trans n2,(ha _).trans n3,(ha _).trans n4⟩)
      have HXA:Hid (InV wr (SB w.heap.size W5.heap.size wr) x (vA x C f C' f')):=Lib.hid ((hxa.keep (Nat.le_refl _) hfw).more (fun b hb=>.inl hb))
      obtain ⟨n9,hn9⟩:∃ n9,(Pt.withM acc nm x).length=n9:=⟨_,rfl⟩
      have HWI:Hid (∀ W,Fr wr W→Calls Tryz.prog 36 #[.agg #[.int .i64 6,.int .i64 0,.string ⟨#[]⟩,.slice none 0 0,.slice E acc.length e],.string ⟨nm.toArray⟩,.agg #[.int .i64 x.kd,.int .i64 x.nm,.string ⟨x.tx.toArray⟩,.slice C x.ls.length f,.slice C' x.ms.length f']] W fun e w'=>(∃ (D9:Option Addr) (g9:Nat),e=.returned (.agg #[.int .i64 6,.int .i64 0,.string ⟨#[]⟩,.slice none 0 0,.slice D9 n9 g9])∧InV w' (SB w.heap.size W5.heap.size w') (JV.mapV (Pt.withM acc nm x)) (.agg #[.int .i64 6,.int .i64 0,.string ⟨#[]⟩,.slice none 0 0,.slice D9 n9 g9]))∧Fr W w'):=Lib.hid (fun W hW=>by
       have hlow:∀ b,SB w.heap.size W5.heap.size wr b→b<wr.heap.size:=fun b hb=>by rcases hb with hb | hb;exact Nat.lt_of_lt_of_le hb hfw.size;exact hb.2
       have hsz:=hW.size
       have e1:(if (JV.mapV acc).kd=6 then (JV.mapV acc).ms else [])=acc:=if_pos rfl
       have h:=rwithS_is (JV.mapV acc) x none 0 E e C f C' f' nm W (SB w.heap.size W5.heap.size wr) (fun b hb=>Nat.lt_of_lt_of_le (hlow b hb) hsz) (hV.out.keepS hlow hW) (HXA.out.keepS hlow hW) (by show acc.length*96≤_;omega) hnl
       rw [e1,hn9] at h
       refine h.mono ?_
       rintro e w' ⟨D9,g9,he,hv,hf⟩
       exact ⟨⟨D9,g9,he,SB.next hv (Nat.le_trans hX.out.size hsz) (Nat.le_trans hsz hf.size)⟩,hf⟩)
      have HNX2:=Lib.hid hnext
      have HN9:=Lib.hid hn9
      clear hn hx hb hxa hac hnext hn9 a0 n0 n1 n2 n3 n4
      go_upto_region 12 with fail
      refine OrdL.begin (x:=12) (fun W=>(W.cell? ⟨X10,0,none⟩=some (.int .i64 6)∧W.cell? ⟨X10,0+1,none⟩=some (.int .i64 0)∧W.cell? ⟨X10,0+2,none⟩=some (.string ⟨#[]⟩)∧W.cell? ⟨X10,0+3,none⟩=some (.slice none 0 0)∧W.cell? ⟨X10,0+4,none⟩=some (.slice E acc.length e))∧W.cell? ⟨b,o+i*6,none⟩=some (.string ⟨nm.toArray⟩)∧(W.cell? ⟨b,o+i*6+1,none⟩=some (.int .i64 x.kd)∧W.cell? ⟨b,o+i*6+1+1,none⟩=some (.int .i64 x.nm)∧W.cell? ⟨b,o+i*6+1+2,none⟩=some (.string ⟨x.tx.toArray⟩)∧W.cell? ⟨b,o+i*6+1+3,none⟩=some (.slice C x.ls.length f)∧W.cell? ⟨b,o+i*6+1+4,none⟩=some (.slice C' x.ms.length f'))) (by kernel_rfl) ?_ (fun hH=>?_)
      ·exact HS12.out _ (Fr.refl _).drew
      refine OrdL.take (i:=0) (v:=?_) [11] rfl (by kernel_rfl) (by kernel_rfl) (by kernel_rfl) (by kernel_rfl) (fun _ _ _ h=>h) (Or.inl ⟨by rfl,?_⟩) hH ?_
      rotate_left
      ·(intro w' hSw;(try dsimp only at hSw);go_simp;try with_reducible rfl)
      try simp only [Act.put,fl]
      refine OrdL.take (i:=1) (v:=?_) [3,4,5,11] rfl (by kernel_rfl) (by kernel_rfl) (by kernel_rfl) (by kernel_rfl) (fun _ _ _ h=>h) (Or.inl ⟨by rfl,?_⟩) hH ?_
      rotate_left
      ·(intro w' hSw;(try dsimp only at hSw);go_simp;try with_reducible rfl)
      try simp only [Act.put,fl]
      refine OrdL.take (i:=2) (v:=?_) [3,4,5,11] rfl (by kernel_rfl) (by kernel_rfl) (by kernel_rfl) (by kernel_rfl) (fun _ _ _ h=>h) (Or.inl ⟨by rfl,?_⟩) hH ?_
      rotate_left
      ·(intro w' hSw;(try dsimp only at hSw);go_simp;try with_reducible rfl)
      try simp only [Act.put,fl]
      refine OrdL.take (i:=3) (v:=?_) [4,5,11] rfl (by kernel_rfl) (by kernel_rfl) (by kernel_rfl) (by kernel_rfl) (fun _ _ _ h=>h) (Or.inl ⟨by rfl,?_⟩) hH ?_
      rotate_left
      ·(intro w' hSw;(try dsimp only at hSw);go_simp;try with_reducible rfl)
      try simp only [Act.put,fl]
      refine OrdL.take (i:=4) (v:=?_) [5,11] rfl (by kernel_rfl) (by kernel_rfl) (by kernel_rfl) (by kernel_rfl) (fun _ _ _ h=>h) (Or.inl ⟨by rfl,?_⟩) hH ?_
      rotate_left
      ·(intro w' hSw;(try dsimp only at hSw);go_simp;try with_reducible rfl)
      try simp only [Act.put,fl]
      refine OrdL.take (i:=5) (v:=?_) [11] rfl (by kernel_rfl) (by kernel_rfl) (by kernel_rfl) (by kernel_rfl) (fun _ _ _ h=>h) (Or.inl ⟨by rfl,?_⟩) hH ?_
      rotate_left
      ·(intro w' hSw;(try dsimp only at hSw);go_simp;try with_reducible rfl)
      try simp only [Act.put,fl]
      refine OrdL.take (i:=6) (v:=?_) [8,9,10,11] rfl (by kernel_rfl) (by kernel_rfl) (by kernel_rfl) (by kernel_rfl) (fun _ _ _ h=>h) (Or.inl ⟨by rfl,?_⟩) hH ?_
      rotate_left
      ·(intro w' hSw;(try dsimp only at hSw);go_simp;try with_reducible rfl)
      try simp only [Act.put,fl]
      refine OrdL.take (i:=7) (v:=?_) [8,9,10,11] rfl (by kernel_rfl) (by kernel_rfl) (by kernel_rfl) (by kernel_rfl) (fun _ _ _ h=>h) (Or.inl ⟨by rfl,?_⟩) hH ?_
      rotate_left
      ·(intro w' hSw;(try dsimp only at hSw);go_simp;try with_reducible rfl)
      try simp only [Act.put,fl]
      refine OrdL.take (i:=8) (v:=?_) [9,10,11] rfl (by kernel_rfl) (by kernel_rfl) (by kernel_rfl) (by kernel_rfl) (fun _ _ _ h=>h) (Or.inl ⟨by rfl,?_⟩) hH ?_
      rotate_left
      ·(intro w' hSw;(try dsimp only at hSw);go_simp;try with_reducible rfl)
      try simp only [Act.put,fl]
      refine OrdL.take (i:=9) (v:=?_) [10,11] rfl (by kernel_rfl) (by kernel_rfl) (by kernel_rfl) (by kernel_rfl) (fun _ _ _ h=>h) (Or.inl ⟨by rfl,?_⟩) hH ?_
      rotate_left
      ·(intro w' hSw;(try dsimp only at hSw);go_simp;try with_reducible rfl)
      try simp only [Act.put,fl]
      refine OrdL.take (i:=10) (v:=?_) [11] rfl (by kernel_rfl) (by kernel_rfl) (by kernel_rfl) (by kernel_rfl) (fun _ _ _ h=>h) (Or.inl ⟨by rfl,?_⟩) hH ?_
      rotate_left
      ·(intro w' hSw;(try dsimp only at hSw);go_simp;try with_reducible rfl)
      try simp only [Act.put,fl]
      refine OrdL.one (i:=11) rfl (by kernel_rfl) (by rfl) (fun K hK=>?_)
      (go_simp;go_at_call 36;refine (HWI.out _ (Fr.refl wr).drew).mono ?_;rintro e w9 ⟨⟨D9,g9,rfl,hv9⟩,hf9⟩;have HV9:=Lib.hid hv9;have HF9:Hid (Fr wr w9):=Lib.hid ((Fr.refl wr).drew.trans hf9);clear hv9 hf9)
      refine hK.out _ _ (HS12.out _ HF9.out) (fun hH3=>?_)
      clear hK K
      try simp only [Act.put,fl]
      have hb9:=hBr.out.keep HF9.out
      obtain ⟨⟨z0,z1,z2,z3,z4⟩,zf0,zf1,zf2,zf3,zf4⟩:=box5 hb9
      refine OrdL.last rfl (by kernel_rfl) (by kernel_rfl) (fun K hK=>?_)
      go_simp
      refine hK.out _ _ ?_
      clear hK K
      try simp only [Act.put,fl]
      have hff:FrX X10 W5 w9:=hX.out.fr HF9.out
      have hlow9:∀ b,SB w.heap.size W5.heap.size w9 b→b<w9.heap.size∧b≠X10:=fun b hb=>by
       have h1:=hfw.size
       have h3:=HF9.out.size
       rcases hb with hb | hb
       ·exact ⟨by omega,by omega⟩
       ·exact ⟨hb.2,by have:=hb.1;omega⟩
      go_wp2_with fail
      exact ⟨⟨i+1,D9,g9,by omega,by go_num,Lib.hid (FrX.trans hff (st5_frx w9 X10 (.int .i64 6) (.int .i64 0) (.string ⟨#[]⟩) (.slice none 0 0) (.slice D9 n9 g9))),Lib.hid (by rw [HNX2.out,HN9.out];exact st5_x hb9 _ _ _ _ _),Lib.hid (by
       rw [HNX2.out,HN9.out]
       have h:=HV9.out.frxS hlow9 (st5_frx w9 X10 (.int .i64 6) (.int .i64 0) (.string ⟨#[]⟩) (.slice none 0 0) (.slice D9 n9 g9))
       exact h.more (fun b hb=>by rcases hb with hb | hb;exact .inl hb;exact .inr ⟨hb.1,by have:=st5_size w9 X10 (.int .i64 6) (.int .i64 0) (.string ⟨#[]⟩) (.slice none 0 0) (.slice D9 n9 g9);exact Nat.lt_of_lt_of_eq hb.2 this.symm⟩))⟩,by simp [intOf];omega⟩
     ·obtain rfl:i=ms.length:=by omega
      have hlen:=Pt.foldW_len ms ms.length (Nat.le_refl _)
      rw [List.take_length] at hBr hV hlen
      generalize hacc:Pt.foldW ms=acc at hBr hV hlen
      have HACC:=Lib.hid hacc
      have ho:=HO5.out.frx hX.out (show X9≠X10 by omega)
      have hx:=HX5.out.frx hX.out (show X0≠X10 by omega)
      obtain ⟨SQ,hSQ⟩:∃ SQ:Nat→Prop,SQ=(fun b=>(SV b∨SB w.heap.size W5.heap.size wr b)):=⟨_,rfl⟩
      have hSQl:∀ b,SQ b→b<wr.heap.size∧b≠X0∧b≠X9∧b≠X10:=fun b hb=>by
       rw [hSQ] at hb
       have h1:=hfw.size
       have h2:=hX.out.size
       have h3:=HXe.out
       rcases hb with hb | hb | hb
       ·have:=HSV3.out b hb;exact ⟨by omega,HNX.out b hb,by omega,by omega⟩
       ·exact ⟨by omega,by omega,by omega,by omega⟩
       ·have:=hb.1;exact ⟨hb.2,by omega,by omega,by omega⟩
      have hi1:InV wr SQ (JV.mapV [(Pt.nResp,JV.listV (l.map Pt.respC))]) (.agg #[.int .i64 6,.int .i64 0,.string ⟨#[]⟩,.slice none 0 0,.slice D 1 g]):=(HI5.out.frxS (fun b hb=>by have:=HSV3.out b hb;exact ⟨by omega,by omega⟩) hX.out).more (fun b hb=>by rw [hSQ];exact .inl hb)
      have hi4:InV wr SQ (JV.mapV acc) (.agg #[.int .i64 6,.int .i64 0,.string ⟨#[]⟩,.slice none 0 0,.slice E acc.length e]):=hV.out.more (fun b hb=>by rw [hSQ];exact .inr hb)
      have HAD:Hid (∀ V,Fr wr V→Calls Tryz.prog 14 #[.agg #[.int .i64 6,.int .i64 0,.string ⟨#[]⟩,.slice none 0 0,.slice D 1 g],.string ⟨#[99,114,101,97,116,101,100,73,100,115]⟩,.agg #[.int .i64 6,.int .i64 0,.string ⟨#[]⟩,.slice none 0 0,.slice E acc.length e]] V fun e w'=>(∃ (D9:Option Addr) (g9:Nat),e=.returned (.agg #[.int .i64 6,.int .i64 0,.string ⟨#[]⟩,.slice none 0 0,.slice D9 2 g9])∧InV w' (NeS SQ V w') (JV.mapV [(Pt.nResp,JV.listV (l.map Pt.respC)),(Pt.nIds,JV.mapV acc)]) (.agg #[.int .i64 6,.int .i64 0,.string ⟨#[]⟩,.slice none 0 0,.slice D9 2 g9]))∧Fr V w'):=Lib.hid (fun V hV2=>radd_map [(Pt.nResp,JV.listV (l.map Pt.respC))] (JV.mapV acc) D g none 0 E e [99,114,101,97,116,101,100,73,100,115] V SQ (ltS (fun b hb=>(hSQl b hb).1) hV2) (hi1.keepS (fun b hb=>(hSQl b hb).1) hV2) (hi4.keepS (fun b hb=>(hSQl b hb).1) hV2) (by simp) (by simp) 2 1 rfl rfl)
      obtain ⟨⟨y0,y1,y2,y3,y4⟩,_⟩:=box5 hBr.out
      obtain ⟨⟨o0,o1,o2,o3,o4⟩,_⟩:=box5 ho
      have HO:=Lib.hid ho
      have HX:=Lib.hid hx
      have HFW2:=Lib.hid hfw
      have HSQL:=Lib.hid hSQl
      have hX9r:X9<wr.heap.size:=ho.lt
      clear ho hx hfw hSQ hSQl hi1 hi4 hacc HNX HSV3
      go_upto_region 14 with (go_at_call 14;refine (HAD.out _ (Fr.refl wr)).mono ?_;rintro e w7 ⟨⟨D7,g7,rfl,hi7⟩,hf⟩;have hb7:=HO.out.keep hf;obtain ⟨⟨z0,z1,z2,z3,z4⟩,zf0,zf1,zf2,zf3,zf4⟩:=box5 hb7;have HB7:=Lib.hid hb7;have HI7:=Lib.hid hi7;have HF7:=Lib.hid hf;clear hb7 hi7 hf)
      obtain ⟨SV7,hSV7⟩:∃ SV7:Nat→Prop,SV7=NeS SQ wr w7:=⟨_,rfl⟩
      have hi7:=HI7.out
      rw [← hSV7] at hi7
      have h7s:=HF7.out.size
      have hlow7:∀ b,SV7 b→(b<w7.heap.size∧b≠X9)∧b≠X0:=fun b hb=>by
       rw [hSV7] at hb
       rcases hb with hb | hb
       ·have:=HSQL.out b hb;exact ⟨⟨by omega,this.2.2.1⟩,this.2.1⟩
       ·have:=hb.1;exact ⟨⟨hb.2,by omega⟩,by omega⟩
      have hi8:=hi7.frxS (fun b hb=>(hlow7 b hb).1) (st5_frx w7 X9 (.int .i64 6) (.int .i64 0) (.string ⟨#[]⟩) (.slice none 0 0) (.slice D7 2 g7))
      have hb8:=st5_x HB7.out (.int .i64 6) (.int .i64 0) (.string ⟨#[]⟩) (.slice none 0 0) (.slice D7 2 g7)
      have hx8:=(HX.out.keep HF7.out).frx (st5_frx w7 X9 (.int .i64 6) (.int .i64 0) (.string ⟨#[]⟩) (.slice none 0 0) (.slice D7 2 g7)) (show X0≠X9 by omega)
      have hf8:=st5_fr (HFW2.out.trans HF7.out) hw2 (.int .i64 6) (.int .i64 0) (.string ⟨#[]⟩) (.slice none 0 0) (.slice D7 2 g7)
      have hsz8:=st5_size w7 X9 (.int .i64 6) (.int .i64 0) (.string ⟨#[]⟩) (.slice none 0 0) (.slice D7 2 g7)
      unfold st5 at hi8 hb8 hx8 hf8 hsz8
      generalize (((((w7.setCell ⟨X9,0,none⟩ (.int .i64 6)).setCell ⟨X9,1,none⟩ (.int .i64 0)).setCell ⟨X9,2,none⟩ (.string ⟨#[]⟩)).setCell ⟨X9,3,none⟩ (.slice none 0 0)).setCell ⟨X9,4,none⟩ (.slice D7 2 g7))=W8 at hi8 hb8 hx8 hf8 hsz8 ⊢
      have HNX:Hid (∀ k,SV7 k→k≠X0):=Lib.hid (fun b hb=>(hlow7 b hb).2)
      have HIN:Hid (InV W8 SV7 (JV.mapV [(Pt.nResp,JV.listV (l.map Pt.respC)),(Pt.nIds,JV.mapV acc)]) (.agg #[.int .i64 6,.int .i64 0,.string ⟨#[]⟩,.slice none 0 0,.slice D7 2 g7]) ∧ ∀ b,SV7 b→b<W8.heap.size):=Lib.hid ⟨hi8,fun b hb=>by rw [hsz8];exact (hlow7 b hb).1.1⟩
      have HB9:=Lib.hid hb8
      have HX9:=Lib.hid hx8
      have HFW9:=Lib.hid hf8
      clear hi8 hb8 hx8 hf8 hsz8 hi7 hSV7 hlow7
      clear HI5 HO5 HX5 HFR5 hX hBr hV HO HX HFW2 HSQL HAD HB7 HI7
      obtain ⟨D,hD⟩:∃ D,D=D7:=⟨_,rfl⟩
      obtain ⟨g,hg⟩:∃ g,g=g7:=⟨_,rfl⟩
      subst hD;subst hg
      have HS9:Hid (∀ V,Fr W8 V→V.cell? ⟨X9,0,none⟩=some (.int .i64 6)∧V.cell? ⟨X9,0+1,none⟩=some (.int .i64 0)∧V.cell? ⟨X9,0+2,none⟩=some (.string ⟨#[]⟩)∧V.cell? ⟨X9,0+3,none⟩=some (.slice none 0 0)∧V.cell? ⟨X9,0+4,none⟩=some (.slice D 2 g)):=Lib.hid (fun V hV=>by
       have a:=HB9.out.keep hV
       exact ⟨a.cell 0,a.cell 1,a.cell 2,a.cell 3,a.cell 4⟩)
      have HAD:Hid (∀ V,Fr W8 V→Calls Tryz.prog 14 #[.agg #[.int .i64 6,.int .i64 0,.string ⟨#[]⟩,.slice none 0 0,.slice D 2 g],.string ⟨#[115,101,115,115,105,111,110,83,116,97,116,101]⟩,.agg #[.int .i64 4,.int .i64 0,.string ⟨#[48]⟩,.slice none 0 0,.slice none 0 0]] V fun e w'=>(∃ (D9:Option Addr) (g9:Nat),e=.returned (.agg #[.int .i64 6,.int .i64 0,.string ⟨#[]⟩,.slice none 0 0,.slice D9 3 g9])∧InV w' (NeS SV7 V w') (JV.mapV ([(Pt.nResp,JV.listV (l.map Pt.respC)),(Pt.nIds,JV.mapV acc)]++[(Pt.nState,JV.textV [48])])) (.agg #[.int .i64 6,.int .i64 0,.string ⟨#[]⟩,.slice none 0 0,.slice D9 3 g9]))∧Fr V w'):=Lib.hid (fun V hV=>radd_map ([(Pt.nResp,JV.listV (l.map Pt.respC)),(Pt.nIds,JV.mapV acc)]) (JV.textV [48]) D g none 0 none 0 [115,101,115,115,105,111,110,83,116,97,116,101] V SV7 (ltS HIN.out.2 hV) (HIN.out.1.keepS HIN.out.2 hV) (txt_in _ _ _ (by simp)) (by simp) (by simp) 3 2 rfl rfl)
      go_upto_region 14 with fail
      refine OrdL.begin (x:=3) (fun W=>W.cell? ⟨X9,0,none⟩=some (.int .i64 6)∧W.cell? ⟨X9,0+1,none⟩=some (.int .i64 0)∧W.cell? ⟨X9,0+2,none⟩=some (.string ⟨#[]⟩)∧W.cell? ⟨X9,0+3,none⟩=some (.slice none 0 0)∧W.cell? ⟨X9,0+4,none⟩=some (.slice D 2 g)) (by kernel_rfl) ?_ (fun hH=>?_)
      ·exact HS9.out _ (Fr.refl _).drew
      refine OrdL.take (i:=0) (v:=?_) [2] rfl (by kernel_rfl) (by kernel_rfl) (by kernel_rfl) (by kernel_rfl) (fun _ _ _ h=>h) (Or.inl ⟨by rfl,?_⟩) hH ?_
      rotate_left
      ·(intro w' hSw;(try dsimp only at hSw);go_simp;try with_reducible rfl)
      try simp only [Act.put,fl]
      refine OrdL.one (i:=1) rfl (by kernel_rfl) (by rfl) (fun K hK=>?_)
      (go_simp;go_at_call 15;refine (rtxt_is _ _).mono ?_;rintro e w4 ⟨rfl,hf⟩;have HG4:Hid (Fr W8 w4):=Lib.hid ((Fr.refl W8).drew.trans hf);clear hf)
      refine hK.out _ _ (HS9.out _ HG4.out) (fun hH3=>?_)
      clear hK K
      try simp only [Act.put,fl]
      refine OrdL.one (i:=2) rfl (by kernel_rfl) (by rfl) (fun K hK=>?_)
      (go_simp;go_at_call 14;refine (HAD.out _ HG4.out).mono ?_;rintro e w5 ⟨⟨D9,g9,rfl,hi9⟩,hf⟩;have HG5:Hid (Fr W8 w5):=Lib.hid (HG4.out.trans hf);have HI9:=Lib.hid hi9;have hsz4:=HG4.out.size;clear hf hi9)
      refine hK.out _ _ (HS9.out _ HG5.out) (fun hH4=>?_)
      clear hK K
      try simp only [Act.put,fl]
      obtain ⟨⟨y0,y1,y2,y3,y4⟩,yf0,yf1,yf2,yf3,yf4⟩:=box5 (HX9.out.keep HG5.out)
      refine OrdL.last rfl (by kernel_rfl) (by kernel_rfl) (fun K hK=>?_)
      go_simp
      refine hK.out _ _ ?_
      clear hK K
      try simp only [Act.put,fl]
      go_wp2_with fail
      refine bodyPost_ret (results_cv (by rfl) rfl _ X0 (by rfl) _ _ _ _ _ (set5 (HX9.out.keep HG5.out))) rfl ?_
      try (have hacc:=HACC.out;subst hacc)
      refine ⟨⟨D9,g9,rfl,?_⟩,st5_fr (HFW9.out.trans HG5.out) HXe.out _ _ _ _ _⟩
      have hsz5:=HG5.out.size
      have hlow:∀ k,NeS SV7 w4 w5 k→k<w5.heap.size∧k≠X0:=fun k hk=>by
       rcases hk with hk | hk
       ·have:=HIN.out.2 k hk;exact ⟨by omega,HNX.out k hk⟩
       ·exact ⟨hk.2,by have:=HX9.out.lt;omega⟩
      exact (HI9.out.frxS hlow (st5_frx w5 X0 (.int .i64 6) (.int .i64 0) (.string ⟨#[]⟩) (.slice none 0 0) (.slice D9 3 g9))).more (fun k hk=>by have h1:=(hlow k hk).1;have h2:=st5_size w5 X0 (.int .i64 6) (.int .i64 0) (.string ⟨#[]⟩) (.slice none 0 0) (.slice D9 3 g9);exact Nat.lt_of_lt_of_eq h1 h2.symm)
end Go.Proofs.YtockgemmkjdnkaaGreatDoor
