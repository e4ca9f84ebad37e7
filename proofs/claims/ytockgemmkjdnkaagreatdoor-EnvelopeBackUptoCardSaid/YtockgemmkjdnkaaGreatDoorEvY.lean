/- Chapter 25: Response with created ids. -/
import Derived.Test.YtockgemmkjdnkaaGreatDoorEvo
import Derived.Test.YtockgemmkjdnkaaGreatDoorEvp
import Derived.Test.YtockgemmkjdnkaaGreatDoorMgT
namespace Go.Proofs.YtockgemmkjdnkaaGreatDoor
set_option maxRecDepth 100000
set_option maxHeartbeats 4000000
set_option linter.unusedVariables false
set_option linter.unusedSimpArgs false
open Go.RowKit

namespace Pt
def foldW (ms:List (List UInt8 × JV)):List (List UInt8 × JV):=ms.foldl (fun acc p=>withM acc p.1 p.2) []
theorem foldW_take {ms:List (List UInt8 × JV)} {i:Nat} (h:i<ms.length):foldW (ms.take (i+1))=withM (foldW (ms.take i)) ms[i].1 ms[i].2:=by
 unfold foldW
 rw [List.take_succ_eq_append_getElem h,List.foldl_append];rfl
theorem withM_len:∀ (m:List (List UInt8 × JV)) (s:List UInt8) (x:JV),(withM m s x).length≤m.length+1
 | [],s,x=>by simp [withM]
 | p::m,s,x=>by
  unfold withM
  split
  ·simp
  ·have:=withM_len m s x;simp only [List.length_cons];omega
theorem foldW_len (ms:List (List UInt8 × JV)):∀ i,i≤ms.length→(foldW (ms.take i)).length≤i
 | 0,_=>by simp [foldW]
 | i+1,h=>by
  rw [foldW_take (by omega)]
  have:=withM_len (foldW (ms.take i)) ms[i].1 ms[i].2
  have:=foldW_len ms i (by omega)
  omega
end Pt
def SB (a b:Nat) (w:World):Nat→Prop:=fun x=>x<a∨(b≤x∧x<w.heap.size)
theorem SB.next {a b:Nat} {wr W w9:World} {v:JV} {x:Value} (h:InV w9 (NeS (SB a b wr) W w9) v x) (h1:b≤W.heap.size) (h2:wr.heap.size≤w9.heap.size):InV w9 (SB a b w9) v x:=h.more (fun k hk=>by
 rcases hk with (hk | hk) | hk
 ·exact .inl hk
 ·exact .inr ⟨hk.1,Nat.lt_of_lt_of_le hk.2 h2⟩
 ·exact .inr ⟨Nat.le_trans h1 hk.1,hk.2⟩)
theorem st5_size (w:World) (X:Nat) (a b c d e:Value):(st5 w X a b c d e).heap.size=w.heap.size:=by simp [st5,World.setCell]

theorem eresp_yes (l:List CallV) (A:Option Addr) (c:Nat) (ms:List (List UInt8 × JV)) (B:Option Addr) (d:Nat) (w:World) (h:CsR w A l) (hm:MsC w (Lo w.heap.size) B ms) (hl:l.length≤1048576) (hml:ms.length≤1048576) (hnm:∀ p∈l,p.1.1.length≤140737488355328∧p.2.length≤140737488355328):
  Calls Tryz.prog 19 #[.slice A l.length c,.slice B ms.length d,.bool true] w fun e w'=>(∃ (D:Option Addr) (g:Nat) (S:Nat→Prop),e=.returned (.agg #[.int .i64 6,.int .i64 0,.string ⟨#[]⟩,.slice none 0 0,.slice D 3 g])∧MgT w' S w.heap.size (.slice D 3 g) [(Pt.nResp,JV.listV (l.map Pt.respC)),(Pt.nIds,JV.mapV (Pt.foldW ms)),(Pt.nState,JV.textV [48])])∧Fr w w':=by
 have hl':(l.length:Int)≤1048576:=by omega
 have hml':(ms.length:Int)≤1048576:=by omega
 have HM:=Lib.hid hm
 clear hm
 have H:=Lib.hid h
 have HNM:=Lib.hid hnm
 clear h hnm
 go_enter Tryz.func19,Tryz.ntmps19
 go_upto_region 3 with fail
 have hx0:Blk ((w.alloc (.cells #[.int .i64 0,.int .i64 0,.string ⟨#[]⟩,.slice none 0 0,.slice none 0 0] 29)).alloc (.cells #[.int .i64 5,.int .i64 0,.string ⟨#[]⟩,(.slice none 0 0),.slice none 0 0] 29)) w.heap.size #[.int .i64 0,.int .i64 0,.string ⟨#[]⟩,.slice none 0 0,.slice none 0 0] 29:=(Blk.made w _ _).keep ((Fr.refl _).alloc _)
 have hy0:Blk ((w.alloc (.cells #[.int .i64 0,.int .i64 0,.string ⟨#[]⟩,.slice none 0 0,.slice none 0 0] 29)).alloc (.cells #[.int .i64 5,.int .i64 0,.string ⟨#[]⟩,(.slice none 0 0),.slice none 0 0] 29)) (w.heap.size+1) #[.int .i64 5,.int .i64 0,.string ⟨#[]⟩,(.slice none 0 0),.slice none 0 0] 29:=boxz (Blk.made (w.alloc _) _ _)
 have hf0:Fr w ((w.alloc (.cells #[.int .i64 0,.int .i64 0,.string ⟨#[]⟩,.slice none 0 0,.slice none 0 0] 29)).alloc (.cells #[.int .i64 5,.int .i64 0,.string ⟨#[]⟩,(.slice none 0 0),.slice none 0 0] 29)):=((Fr.refl w).alloc _).alloc _
 have hXY:Hid (w.heap.size≠w.heap.size+1):=Lib.hid (by omega)
 generalize ((w.alloc (.cells #[.int .i64 0,.int .i64 0,.string ⟨#[]⟩,.slice none 0 0,.slice none 0 0] 29)).alloc (.cells #[.int .i64 5,.int .i64 0,.string ⟨#[]⟩,(.slice none 0 0),.slice none 0 0] 29))=W1 at hx0 hy0 hf0 ⊢
 generalize hY:w.heap.size+1=X1 at hy0 hXY ⊢
 obtain ⟨X0,hX⟩:∃ X,w.heap.size=X:=⟨_,rfl⟩
 rw [hX] at hx0 hXY ⊢
 have HXw:Hid (w.heap.size≤X1∧X1≤W1.heap.size):=Lib.hid ⟨by omega,Nat.le_of_lt hy0.lt⟩
 have HXe:Hid (w.heap.size≤X0):=Lib.hid (Nat.le_of_eq hX)
 clear hX hY
 have HX0:=Lib.hid hx0
 have HY0:=Lib.hid hy0
 have HF0:=Lib.hid hf0
 clear hx0 hy0 hf0
 go_loopw [17] (fun j wr=>∃ (i:Nat) (lv:Value),i≤l.length∧j=.int .i64 i∧Hid (FrX X1 W1 wr)∧Hid (Blk wr X1 #[.int .i64 5,.int .i64 0,.string ⟨#[]⟩,lv,.slice none 0 0] 29)∧Hid (VsB wr w.heap.size W1.heap.size lv ((l.take i).map Pt.respC))) (fun j _=>l.length - (intOf j).toNat)
 case atStart=>exact ⟨0,_,by omega,rfl,Lib.hid (FrX.refl X1 W1),HY0,Lib.hid (VsB.none_ _ ⟨HF0.out.size,Nat.le_refl _⟩)⟩
 case round=>
  obtain ⟨i,lv,hi,rfl,hX,hBr,hV⟩:=hrel
  by_cases hlt:i<l.length
  ·have hlt':(i:Int)<(l.length:Int):=by omega
   obtain ⟨b,o,C,f,C',f',rfl,hb,a0,⟨n0,n1,n2,n3,n4⟩,a6,hxa⟩:=H.out i hlt
   obtain ⟨nm,hn⟩:∃ nm,l[i].1.1=nm:=⟨_,rfl⟩
   obtain ⟨x,hx⟩:∃ x,l[i].1.2=x:=⟨_,rfl⟩
   obtain ⟨id,hid⟩:∃ id,l[i].2=id:=⟨_,rfl⟩
   have hbn:=HNM.out _ (List.getElem_mem hlt)
   have HLI:Hid (l[i]=((nm,x),id)):=Lib.hid (by rw [← hn,← hx,← hid])
   rw [hn] at a0 hbn
   rw [hx] at n0 n1 n2 n3 n4 hxa
   rw [hid] at a6 hbn
   have hfw:Fr w wr:=Fr.thenX HF0.out HXw.out.1 HXw.out.2 hX.out
   have ha:∀ o,wr.cell? ⟨b,o,none⟩=w.cell? ⟨b,o,none⟩:=fun o=>hfw.cell hb
   rw [← ha] at a0 n0 n1 n2 n3 n4 a6
   have HBN:=Lib.hid hbn
   have HXA:Hid (InV wr (Lo w.heap.size) x (vA x C f C' f')):=Lib.hid (hxa.keep (Nat.le_refl _) hfw)
   have hmin:((l.take i).map Pt.respC).length=i:=by simp;omega
   have hk80:(((l.take i).map Pt.respC).length+1)*80≤140737488355328:=by simp;omega
   clear hn hx hid hbn ha hxa hb
   go_upto_region 5 with fail
   have hb8:=Blk.made wr #[.string ⟨nm.toArray⟩,.int .i64 x.kd,.int .i64 x.nm,.string ⟨x.tx.toArray⟩,.slice C x.ls.length f,.slice C' x.ms.length f',.string ⟨id.toArray⟩] 50
   have hf8:Fr wr (wr.alloc (.cells #[.string ⟨nm.toArray⟩,.int .i64 x.kd,.int .i64 x.nm,.string ⟨x.tx.toArray⟩,.slice C x.ls.length f,.slice C' x.ms.length f',.string ⟨id.toArray⟩] 50)):=(Fr.refl wr).alloc _
   clear a0 n0 n1 n2 n3 n4 a6 hfw
   generalize (wr.alloc (.cells #[.string ⟨nm.toArray⟩,.int .i64 x.kd,.int .i64 x.nm,.string ⟨x.tx.toArray⟩,.slice C x.ls.length f,.slice C' x.ms.length f',.string ⟨id.toArray⟩] 50))=W8 at hb8 hf8 ⊢
   have hX98:wr.heap.size≠X1:=fun e=>by have:=hBr.out.lt;omega
   generalize hX9e:wr.heap.size=X9 at hb8 hX98 ⊢
   have hy8:=hBr.out.keep hf8
   have HSB:Hid (∀ W:World,(W.heap[X1]? = W8.heap[X1]? ∧ W.heap[X9]? = W8.heap[X9]?)→W.cell? ⟨X1,3,none⟩=some lv∧W.cell? ⟨X9,0,none⟩=some (.string ⟨nm.toArray⟩)∧W.cell? ⟨X9,1,none⟩=some (.int .i64 x.kd)∧W.cell? ⟨X9,1+1,none⟩=some (.int .i64 x.nm)∧W.cell? ⟨X9,1+2,none⟩=some (.string ⟨x.tx.toArray⟩)∧W.cell? ⟨X9,1+3,none⟩=some (.slice C x.ls.length f)∧W.cell? ⟨X9,1+4,none⟩=some (.slice C' x.ms.length f')∧W.cell? ⟨X9,6,none⟩=some (.string ⟨id.toArray⟩)):=Lib.hid (fun W hW=>by
    have a:Blk W X9 _ _:=hW.2.trans hb8
    have b:Blk W X1 _ _:=hW.1.trans hy8
    exact ⟨b.cell 3,a.cell 0,a.cell 1,a.cell 2,a.cell 3,a.cell 4,a.cell 5,a.cell 6⟩)
   have hl8:=hb8.lt
   have hl9:=hy8.lt
   have HSW:Hid (∀ W,Fr W8 W→W.cell? ⟨X1,3,none⟩=some lv∧W.cell? ⟨X9,0,none⟩=some (.string ⟨nm.toArray⟩)∧W.cell? ⟨X9,1,none⟩=some (.int .i64 x.kd)∧W.cell? ⟨X9,1+1,none⟩=some (.int .i64 x.nm)∧W.cell? ⟨X9,1+2,none⟩=some (.string ⟨x.tx.toArray⟩)∧W.cell? ⟨X9,1+3,none⟩=some (.slice C x.ls.length f)∧W.cell? ⟨X9,1+4,none⟩=some (.slice C' x.ms.length f')∧W.cell? ⟨X9,6,none⟩=some (.string ⟨id.toArray⟩)):=Lib.hid (fun W hW=>HSB.out W ⟨Below.block hW _ hl9,Below.block hW _ hl8⟩)
   have hown:∀ k,lv.ownBlock=some k→W1.heap.size≤k∧k<X9:=fun k hk=>⟨(hV.out.own_lt hk).1,hX9e ▸ (hV.out.own_lt hk).2⟩
   have hx9:∀ W,Fr W8 W → ∀ w9,((W.alloc (.cells #[.int .i64 4,.int .i64 0,.string ⟨nm.toArray⟩,.slice none 0 0,.slice none 0 0,.int .i64 x.kd,.int .i64 x.nm,.string ⟨x.tx.toArray⟩,.slice C x.ls.length f,.slice C' x.ms.length f',.int .i64 4,.int .i64 0,.string ⟨id.toArray⟩,.slice none 0 0,.slice none 0 0] 29)).alloc (.cells #[.int .i64 5,.int .i64 0,.string ⟨#[]⟩,.slice (some ⟨W.heap.size,0,none⟩) 3 3,.slice none 0 0] 29)).grownBy w9 lv.ownBlock→(w9.heap[X1]? = W8.heap[X1]? ∧ w9.heap[X9]? = W8.heap[X9]?):=fun W hW w9 hg=>by
    have h2:=(hW.alloc (.cells #[.int .i64 4,.int .i64 0,.string ⟨nm.toArray⟩,.slice none 0 0,.slice none 0 0,.int .i64 x.kd,.int .i64 x.nm,.string ⟨x.tx.toArray⟩,.slice C x.ls.length f,.slice C' x.ms.length f',.int .i64 4,.int .i64 0,.string ⟨id.toArray⟩,.slice none 0 0,.slice none 0 0] 29)).alloc (.cells #[.int .i64 5,.int .i64 0,.string ⟨#[]⟩,.slice (some ⟨W.heap.size,0,none⟩) 3 3,.slice none 0 0] 29)
    exact ⟨(hg.block X1 (Nat.lt_of_lt_of_le hl9 h2.size) (fun e=>by have:=(hown X1 e.symm).1;have:=HY0.out.lt;omega)).trans (Below.block h2 _ hl9),(hg.block X9 (Nat.lt_of_lt_of_le hl8 h2.size) (fun e=>by have:=(hown X9 e.symm).2;omega)).trans (Below.block h2 _ hl8)⟩
   have hfx9:∀ W,Fr W8 W → ∀ w9,((W.alloc (.cells #[.int .i64 4,.int .i64 0,.string ⟨nm.toArray⟩,.slice none 0 0,.slice none 0 0,.int .i64 x.kd,.int .i64 x.nm,.string ⟨x.tx.toArray⟩,.slice C x.ls.length f,.slice C' x.ms.length f',.int .i64 4,.int .i64 0,.string ⟨id.toArray⟩,.slice none 0 0,.slice none 0 0] 29)).alloc (.cells #[.int .i64 5,.int .i64 0,.string ⟨#[]⟩,.slice (some ⟨W.heap.size,0,none⟩) 3 3,.slice none 0 0] 29)).grownBy w9 lv.ownBlock→FrX X1 W1 w9:=fun W hW w9 hg=>FrX.grown2 (hX.out.fr (hf8.trans ((hW.alloc (.cells #[.int .i64 4,.int .i64 0,.string ⟨nm.toArray⟩,.slice none 0 0,.slice none 0 0,.int .i64 x.kd,.int .i64 x.nm,.string ⟨x.tx.toArray⟩,.slice C x.ls.length f,.slice C' x.ms.length f',.int .i64 4,.int .i64 0,.string ⟨id.toArray⟩,.slice none 0 0,.slice none 0 0] 29)).alloc (.cells #[.int .i64 5,.int .i64 0,.string ⟨#[]⟩,.slice (some ⟨W.heap.size,0,none⟩) 3 3,.slice none 0 0] 29)))) hg (fun k hk=>(hown k hk).1)
   have HVK:Hid (∀ W,Fr W8 W→VsB W w.heap.size W1.heap.size lv ((l.take i).map Pt.respC)):=Lib.hid (fun W hW=>hV.out.keep (hf8.trans hW))
   have HRC:Hid (∀ W,Fr W8 W→InV (W.alloc (.cells #[.int .i64 4,.int .i64 0,.string ⟨nm.toArray⟩,.slice none 0 0,.slice none 0 0,.int .i64 x.kd,.int .i64 x.nm,.string ⟨x.tx.toArray⟩,.slice C x.ls.length f,.slice C' x.ms.length f',.int .i64 4,.int .i64 0,.string ⟨id.toArray⟩,.slice none 0 0,.slice none 0 0] 29)) (InB w.heap.size W1.heap.size (W.alloc (.cells #[.int .i64 4,.int .i64 0,.string ⟨nm.toArray⟩,.slice none 0 0,.slice none 0 0,.int .i64 x.kd,.int .i64 x.nm,.string ⟨x.tx.toArray⟩,.slice C x.ls.length f,.slice C' x.ms.length f',.int .i64 4,.int .i64 0,.string ⟨id.toArray⟩,.slice none 0 0,.slice none 0 0] 29)) lv) (Pt.respC ((nm,x),id)) (.agg #[.int .i64 5,.int .i64 0,.string ⟨#[]⟩,.slice (some ⟨W.heap.size,0,none⟩) 3 3,.slice none 0 0])):=Lib.hid (fun W hW=>by
    have hal:=(Fr.refl W).alloc (.cells #[.int .i64 4,.int .i64 0,.string ⟨nm.toArray⟩,.slice none 0 0,.slice none 0 0,.int .i64 x.kd,.int .i64 x.nm,.string ⟨x.tx.toArray⟩,.slice C x.ls.length f,.slice C' x.ms.length f',.int .i64 4,.int .i64 0,.string ⟨id.toArray⟩,.slice none 0 0,.slice none 0 0] 29)
    have hs:=(hf8.trans hW).size
    refine three_in _ nm id x C f C' f' rfl (.inr ⟨Nat.le_trans hX.out.size hs,by simp,fun e=>?_⟩) HBN.out.1 HBN.out.2 ?_
    ·obtain ⟨_,xs,hvb,_⟩:=hV.out
     have:=(hvb.own_lt e).2
     omega
    ·exact (HXA.out.keep (Nat.le_trans (Nat.le_trans HF0.out.size hX.out.size) (Nat.le_refl _)) ((hf8.trans hW).trans hal)).more (fun b hb=>.inl hb))
   refine OrdL.begin (x:=15) (fun W=>W.cell? ⟨X1,3,none⟩=some lv∧W.cell? ⟨X9,0,none⟩=some (.string ⟨nm.toArray⟩)∧W.cell? ⟨X9,1,none⟩=some (.int .i64 x.kd)∧W.cell? ⟨X9,1+1,none⟩=some (.int .i64 x.nm)∧W.cell? ⟨X9,1+2,none⟩=some (.string ⟨x.tx.toArray⟩)∧W.cell? ⟨X9,1+3,none⟩=some (.slice C x.ls.length f)∧W.cell? ⟨X9,1+4,none⟩=some (.slice C' x.ms.length f')∧W.cell? ⟨X9,6,none⟩=some (.string ⟨id.toArray⟩)) (by kernel_rfl) ?_ (fun hH=>?_)
   ·exact HSW.out _ (Fr.refl _).drew
   refine OrdL.take (i:=0) (v:=?_) [1,13] rfl (by kernel_rfl) (by kernel_rfl) (by kernel_rfl) (by kernel_rfl) (fun _ _ _ h=>h) (Or.inl ⟨by rfl,?_⟩) hH ?_
   rotate_left
   ·(intro w' hSw;(try dsimp only at hSw);go_simp;try with_reducible rfl)
   try simp only [Act.put,fl]
   refine OrdL.take (i:=1) (v:=?_) [13] rfl (by kernel_rfl) (by kernel_rfl) (by kernel_rfl) (by kernel_rfl) (fun _ _ _ h=>h) (Or.inl ⟨by rfl,?_⟩) hH ?_
   rotate_left
   ·(intro w' hSw;(try dsimp only at hSw);go_simp;try with_reducible rfl)
   try simp only [Act.put,fl]
   refine OrdL.take (i:=2) (v:=?_) [3,4,10,11,12,13] rfl (by kernel_rfl) (by kernel_rfl) (by kernel_rfl) (by kernel_rfl) (fun _ _ _ h=>h) (Or.inl ⟨by rfl,?_⟩) hH ?_
   rotate_left
   ·(intro w' hSw;(try dsimp only at hSw);go_simp;try with_reducible rfl)
   try simp only [Act.put,fl]
   refine OrdL.take (i:=3) (v:=?_) [4,10,11,12,13] rfl (by kernel_rfl) (by kernel_rfl) (by kernel_rfl) (by kernel_rfl) (fun _ _ _ h=>h) (Or.inl ⟨by rfl,?_⟩) hH ?_
   rotate_left
   ·(intro w' hSw;(try dsimp only at hSw);go_simp;try with_reducible rfl)
   try simp only [Act.put,fl]
   refine OrdL.take (i:=5) (v:=?_) [6,10,11,12,13] rfl (by kernel_rfl) (by kernel_rfl) (by kernel_rfl) (by kernel_rfl) (fun _ _ _ h=>h) (Or.inl ⟨by rfl,?_⟩) hH ?_
   rotate_left
   ·(intro w' hSw;(try dsimp only at hSw);go_simp;try with_reducible rfl)
   try simp only [Act.put,fl]
   refine OrdL.take (i:=6) (v:=?_) [10,11,12,13] rfl (by kernel_rfl) (by kernel_rfl) (by kernel_rfl) (by kernel_rfl) (fun _ _ _ h=>h) (Or.inl ⟨by rfl,?_⟩) hH ?_
   rotate_left
   ·(intro w' hSw;(try dsimp only at hSw);go_simp;try with_reducible rfl)
   try simp only [Act.put,fl]
   refine OrdL.take (i:=7) (v:=?_) [8,9,10,11,12,13] rfl (by kernel_rfl) (by kernel_rfl) (by kernel_rfl) (by kernel_rfl) (fun _ _ _ h=>h) (Or.inl ⟨by rfl,?_⟩) hH ?_
   rotate_left
   ·(intro w' hSw;(try dsimp only at hSw);go_simp;try with_reducible rfl)
   try simp only [Act.put,fl]
   refine OrdL.take (i:=8) (v:=?_) [9,10,11,12,13] rfl (by kernel_rfl) (by kernel_rfl) (by kernel_rfl) (by kernel_rfl) (fun _ _ _ h=>h) (Or.inl ⟨by rfl,?_⟩) hH ?_
   rotate_left
   ·(intro w' hSw;(try dsimp only at hSw);go_simp;try with_reducible rfl)
   try simp only [Act.put,fl]
   refine OrdL.one (i:=4) rfl (by kernel_rfl) (by rfl) (fun K hK=>?_)
   (go_simp;go_at_call 39;refine (etxt_is _ _).mono ?_;rintro e w1 ⟨rfl,hf⟩;have HG1:=Lib.hid ((Fr.refl W8).drew.trans hf);clear hf)
   refine hK.out _ _ (HSW.out _ HG1.out) (fun hH1=>?_)
   clear hK K
   try simp only [Act.put,fl]
   refine OrdL.one (i:=9) rfl (by kernel_rfl) (by rfl) (fun K hK=>?_)
   (go_simp;go_at_call 39;refine (etxt_is _ _).mono ?_;rintro e w2 ⟨rfl,hf⟩;have HG2:=Lib.hid (HG1.out.trans hf);clear hf)
   refine hK.out _ _ (HSW.out _ HG2.out) (fun hH2=>?_)
   clear hK K
   try simp only [Act.put,fl]
   refine OrdL.one (i:=10) rfl (by kernel_rfl) (by rfl) (fun K hK=>?_)
   go_simp
   refine hK.out _ _ (HSW.out _ (HG2.out.alloc _)) (fun hH3=>?_)
   clear hK K
   try simp only [Act.put,fl]
   refine OrdL.take (i:=11) (v:=?_) [12,13] rfl (by kernel_rfl) (by kernel_rfl) (by kernel_rfl) (by kernel_rfl) (fun _ _ _ h=>h) (Or.inl ⟨by rfl,?_⟩) hH3 ?_
   rotate_left
   ·(intro w' hSw;(try dsimp only at hSw);go_simp;try with_reducible rfl)
   try simp only [Act.put,fl]
   refine OrdL.one (i:=12) rfl (by kernel_rfl) (by rfl) (fun K hK=>?_)
   go_simp
   refine hK.out _ _ (HSW.out _ ((HG2.out.alloc _).alloc _)) (fun hH4=>?_)
   clear hK K
   try simp only [Act.put,fl]
   have HG3:=Lib.hid (HG2.out.alloc (.cells #[.int .i64 4,.int .i64 0,.string ⟨nm.toArray⟩,.slice none 0 0,.slice none 0 0,.int .i64 x.kd,.int .i64 x.nm,.string ⟨x.tx.toArray⟩,.slice C x.ls.length f,.slice C' x.ms.length f',.int .i64 4,.int .i64 0,.string ⟨id.toArray⟩,.slice none 0 0,.slice none 0 0] 29))
   have hin3:=HRC.out w2 HG2.out
   have hv3:=HVK.out _ HG3.out
   refine OrdL.one (i:=13) rfl (by kernel_rfl) (by rfl) (fun K hK=>?_)
   refine step_vB_lit rfl (.tmp 22) (.tmp 33) rfl w.heap.size W1.heap.size lv ((l.take i).map Pt.respC) rfl hv3 (Pt.respC ((nm,x),id)) (some ⟨w2.heap.size,0,none⟩) 3 none 0 rfl hin3 (by show Value.slice (some ⟨w2.heap.size+1,0,none⟩) 1 1=_;simp) hk80 ?_
   intro v9 w9 hs9 hg9 ho9
   obtain ⟨A9,c9,rfl⟩:=hs9.is_slice
   have hxs9:=hx9 w2 HG2.out w9 hg9
   refine hK.out _ _ (HSB.out _ hxs9) (fun hH5=>?_)
   clear hK K
   try simp only [Act.put,fl]
   have hb9:Blk w9 X1 _ _:=hxs9.1.trans hy8
   obtain ⟨⟨y0,y1,y2,y3,y4⟩,yf0,yf1,yf2,yf3,yf4⟩:=box5 hb9
   have hf9:=hfx9 w2 HG2.out w9 hg9
   refine OrdL.take (i:=14) (v:=?_) [] rfl (by kernel_rfl) (by kernel_rfl) (by kernel_rfl) (by kernel_rfl) (fun _ _ _ h=>h) (Or.inl ⟨by rfl,?_⟩) hH5 ?_
   rotate_left
   ·(intro w' hSw;(try dsimp only at hSw);go_simp;try with_reducible rfl)
   try simp only [Act.put,fl]
   refine OrdL.last rfl (by kernel_rfl) (by kernel_rfl) (fun K hK=>?_)
   go_simp
   refine hK.out _ _ ?_
   clear hK K
   try simp only [Act.put,fl]
   go_wp2_with fail
   exact ⟨⟨i+1,_,by omega,by go_num,Lib.hid (hf9.setCell rfl _),Lib.hid (hb9.set 3 _),Lib.hid (by rw [Pt.respC_take hlt,HLI.out];have hq:=hs9.frx HXw.out.1 HY0.out.lt ((FrX.refl X1 w9).setCell (p:=⟨X1,3,none⟩) rfl (.slice A9 (i+1) c9));rw [List.length_append,hmin] at hq;exact hq)⟩,by simp [intOf];omega⟩
  ·obtain rfl:i=l.length:=by omega
   have hfw:Fr w wr:=Fr.thenX HF0.out HXw.out.1 HXw.out.2 hX.out
   have hv:=hV.out
   rw [List.take_length] at hv
   obtain ⟨A5,c5,rfl⟩:=hv.is_slice
   have hll:(l.map Pt.respC).length=l.length:=by simp
   rw [hll] at hv hBr
   have hin:=hv.inV (by rw [hll];omega)
   obtain ⟨SL,hSL⟩:∃ SL:Nat→Prop,SL=(fun b=>b<w.heap.size∨(W1.heap.size≤b∧b<wr.heap.size)):=⟨_,rfl⟩
   rw [← hSL] at hin
   have hSb:∀ b,SL b→b<wr.heap.size:=fun b hb=>by rw [hSL] at hb;rcases hb with hb | hb;exact Nat.lt_of_lt_of_le hb hfw.size;exact hb.2
   have HSX:Hid (∀ b,SL b→b≠X0):=Lib.hid (fun b hb e=>by rw [hSL] at hb;have:=HX0.out.lt;have:=HXe.out;rcases hb with hb | hb <;> omega)
   clear hSL
   have hms:=mss_one wr SL hSb Pt.nResp (JV.listV (l.map Pt.respC)) A5 c5 none 0 (by decide) (by simpa [JV.listV,vA,JV.kd,JV.nm,JV.tx,JV.ls,JV.ms] using hin)
   have HFW:=Lib.hid hfw
   have HMS:Hid (MgS (wr.alloc (.cells #[.string ⟨#[109,101,116,104,111,100,82,101,115,112,111,110,115,101,115]⟩,.int .i64 5,.int .i64 0,.string ⟨#[]⟩,.slice A5 l.length c5,.slice none 0 0] 44)) SL wr.heap.size (.slice (some ⟨wr.heap.size,0,none⟩) 1 1) [(Pt.nResp,JV.listV (l.map Pt.respC))]):=Lib.hid (by simpa [JV.listV,JV.kd,JV.nm,JV.tx,JV.ls,JV.ms,Pt.nResp] using hms)
   obtain ⟨⟨y0,y1,y2,y3,y4⟩,_⟩:=box5 hBr.out
   have hx0r:=HX0.out.frx hX.out hXY.out
   have HX0R:=Lib.hid hx0r
   clear hfw hv hin hms hx0r hSb
   go_upto_region 8 with (go_at_call 40;refine (obj_is _ _ _ _).mono ?_;rintro e w2 ⟨rfl,hf⟩;have HF2:=Lib.hid (((Fr.refl wr).alloc (.cells #[.string ⟨#[109,101,116,104,111,100,82,101,115,112,111,110,115,101,115]⟩,.int .i64 5,.int .i64 0,.string ⟨#[]⟩,.slice A5 l.length c5,.slice none 0 0] 44)).trans hf);have HM2:=Lib.hid (HMS.out.keep hf);clear hf)
   have hb3:=Blk.made w2 #[.int .i64 6,.int .i64 0,.string ⟨#[]⟩,.slice none 0 0,(.slice (some ⟨wr.heap.size,0,none⟩) 1 1)] 29
   have hf3:Fr w2 (w2.alloc (.cells #[.int .i64 6,.int .i64 0,.string ⟨#[]⟩,.slice none 0 0,(.slice (some ⟨wr.heap.size,0,none⟩) 1 1)] 29)):=(Fr.refl w2).alloc _
   have hm3:=HM2.out.keep hf3
   have hfr3:Fr w (w2.alloc (.cells #[.int .i64 6,.int .i64 0,.string ⟨#[]⟩,.slice none 0 0,(.slice (some ⟨wr.heap.size,0,none⟩) 1 1)] 29)):=(HFW.out.trans HF2.out).trans hf3
   have hx3:=(HX0R.out.keep HF2.out).keep hf3
   have hK:w.heap.size≤wr.heap.size:=HFW.out.size
   have hX0K:X0<wr.heap.size:=HX0R.out.lt
   have hKX:wr.heap.size<w2.heap.size:=(HM2.out.own_lt rfl).2
   generalize (w2.alloc (.cells #[.int .i64 6,.int .i64 0,.string ⟨#[]⟩,.slice none 0 0,(.slice (some ⟨wr.heap.size,0,none⟩) 1 1)] 29))=W3 at hb3 hf3 hm3 hfr3 hx3 ⊢
   clear hf3
   generalize w2.heap.size=X10 at hb3 hKX ⊢
   clear HM2 HMS
   generalize wr.heap.size=G at hb3 hm3 hK hX0K hKX ⊢
   have HS10:Hid (∀ W:World,W.heap[X10]? = W3.heap[X10]? → W.cell? ⟨X10,4,none⟩=some (.slice (some ⟨G,0,none⟩) 1 1)):=Lib.hid (fun W hW=>by
    have a:Blk W X10 _ _:=hW.trans hb3
    exact a.cell 4)
   have HF10:Hid (∀ W,Fr W3 W→W.cell? ⟨X10,4,none⟩=some (.slice (some ⟨G,0,none⟩) 1 1)):=Lib.hid (fun W hW=>HS10.out W (Below.block hW _ hb3.lt))
   go_upto_region 11 with (go_at_call 40;refine (obj_is none 0 0 _).mono ?_;rintro e w4 ⟨rfl,hf⟩;have HF4:Hid (Fr W3 w4):=Lib.hid hf;clear hf)
   have hb5:=Blk.made w4 #[.int .i64 6,.int .i64 0,.string ⟨#[]⟩,.slice none 0 0,(.slice none 0 0)] 29
   have hf5:Fr w4 (w4.alloc (.cells #[.int .i64 6,.int .i64 0,.string ⟨#[]⟩,.slice none 0 0,(.slice none 0 0)] 29)):=(Fr.refl w4).alloc _
   have ho5:=(hb3.keep HF4.out).keep hf5
   have hm5:=(hm3.keep HF4.out).keep hf5
   have hfr5:=(hfr3.trans HF4.out).trans hf5
   have hx5:=(hx3.keep HF4.out).keep hf5
   have hX45:X10<w4.heap.size:=(hb3.keep HF4.out).lt
   clear hb3 hm3 hfr3 hx3
   generalize (w4.alloc (.cells #[.int .i64 6,.int .i64 0,.string ⟨#[]⟩,.slice none 0 0,(.slice none 0 0)] 29))=W5 at hb5 hf5 ho5 hm5 hfr5 hx5 ⊢
   clear hf5
   generalize w4.heap.size=X11 at hb5 hX45 ⊢
   have HB5:=Lib.hid hb5
   have HO5:=Lib.hid ho5
   have HM5:=Lib.hid hm5
   have HFR5:=Lib.hid hfr5
   have HX5:=Lib.hid hx5
   have hX5:X11<W5.heap.size:=hb5.lt
   clear hb5 ho5 hm5 hfr5 hx5 y0 y1 y2 y3 y4 hX hBr hV hi hlt
   obtain ⟨WQ,hq⟩:∃ W,W=wr:=⟨wr,rfl⟩
   subst hq
   go_loopw [45] (fun j wr=>∃ (i:Nat) (D:Option Addr) (g:Nat),i≤ms.length∧j=.int .i64 i∧Hid (FrX X11 W5 wr)∧Hid (Blk wr X11 #[.int .i64 6,.int .i64 0,.string ⟨#[]⟩,.slice none 0 0,(.slice D (Pt.foldW (ms.take i)).length g)] 29)∧Hid (InV wr (SB w.heap.size W5.heap.size wr) (JV.mapV (Pt.foldW (ms.take i))) (.agg #[.int .i64 6,.int .i64 0,.string ⟨#[]⟩,.slice none 0 0,.slice D (Pt.foldW (ms.take i)).length g]))) (fun j _=>ms.length - (intOf j).toNat)
   case atStart=>
    have h0:Pt.foldW (ms.take 0)=[]:=rfl
    refine ⟨0,none,0,by omega,rfl,Lib.hid (FrX.refl X11 W5),?_,?_⟩
    ·rw [h0];exact HB5
    ·rw [h0]
     exact Lib.hid (((MgS.none_ W5 (S:=fun _=>False) (K:=W5.heap.size) ⟨fun b hb=>hb.elim,Nat.le_refl _⟩).inV (by simp)).more (fun b hb=>by rcases hb with hb | hb;exact hb.elim;omega))
   case round=>
    obtain ⟨i,D,g,hi,rfl,hX,hBr,hV⟩:=hrel
    have hfw:Fr w wr:=Fr.thenX HFR5.out (by omega) (Nat.le_of_lt hX5) hX.out
    by_cases hlt:i<ms.length
    ·have hlt':(i:Int)<(ms.length:Int):=by omega
     obtain ⟨b,o,C,f,C',f',rfl,hb,hnl,a0,⟨n0,n1,n2,n3,n4⟩,hxa⟩:=HM.out i hlt
     have hnext:=Pt.foldW_take hlt
     have hlen:=Pt.foldW_len ms i hi
     obtain ⟨nm,hn⟩:∃ nm,ms[i].1=nm:=⟨_,rfl⟩
     obtain ⟨x,hx⟩:∃ x,ms[i].2=x:=⟨_,rfl⟩
     obtain ⟨acc,hac⟩:∃ acc,Pt.foldW (ms.take i)=acc:=⟨_,rfl⟩
     rw [hn] at a0 hnl hnext
     rw [hx] at n0 n1 n2 n3 n4 hxa hnext
     rw [hac] at hBr hV hnext hlen
     have ha:∀ o,wr.cell? ⟨b,o,none⟩=w.cell? ⟨b,o,none⟩:=fun o=>hfw.cell hb
     rw [← ha] at a0 n0 n1 n2 n3 n4
     have HXA:Hid (InV wr (SB w.heap.size W5.heap.size wr) x (vA x C f C' f')):=Lib.hid ((hxa.keep (Nat.le_refl _) hfw).more (fun b hb=>.inl hb))
     have HNX:=Lib.hid hnext
     clear hn hx ha hb hxa hac hnext
     go_upto_region 13 with fail
     have hb8:=Blk.made wr #[.string ⟨nm.toArray⟩,.int .i64 x.kd,.int .i64 x.nm,.string ⟨x.tx.toArray⟩,.slice C x.ls.length f,.slice C' x.ms.length f'] 44
     have hf8:Fr wr (wr.alloc (.cells #[.string ⟨nm.toArray⟩,.int .i64 x.kd,.int .i64 x.nm,.string ⟨x.tx.toArray⟩,.slice C x.ls.length f,.slice C' x.ms.length f'] 44)):=(Fr.refl wr).alloc _
     have hy8:=hBr.out.keep hf8
     have hlw:wr.heap.size≤(wr.alloc (.cells #[.string ⟨nm.toArray⟩,.int .i64 x.kd,.int .i64 x.nm,.string ⟨x.tx.toArray⟩,.slice C x.ls.length f,.slice C' x.ms.length f'] 44)).heap.size:=hf8.size
     clear a0 n0 n1 n2 n3 n4
     generalize (wr.alloc (.cells #[.string ⟨nm.toArray⟩,.int .i64 x.kd,.int .i64 x.nm,.string ⟨x.tx.toArray⟩,.slice C x.ls.length f,.slice C' x.ms.length f'] 44))=W8 at hb8 hf8 hy8 hlw ⊢
     generalize wr.heap.size=X13 at hb8 ⊢
     have HWI:Hid (∀ W,Fr W8 W→Calls Tryz.prog 41 #[.agg #[.int .i64 6,.int .i64 0,.string ⟨#[]⟩,.slice none 0 0,.slice D acc.length g],.string ⟨nm.toArray⟩,.agg #[.int .i64 x.kd,.int .i64 x.nm,.string ⟨x.tx.toArray⟩,.slice C x.ls.length f,.slice C' x.ms.length f']] W fun e w'=>(∃ (D9:Option Addr) (g9:Nat),e=.returned (.agg #[.int .i64 6,.int .i64 0,.string ⟨#[]⟩,.slice none 0 0,.slice D9 (Pt.withM acc nm x).length g9])∧InV w' (SB w.heap.size W5.heap.size w') (JV.mapV (Pt.withM acc nm x)) (.agg #[.int .i64 6,.int .i64 0,.string ⟨#[]⟩,.slice none 0 0,.slice D9 (Pt.withM acc nm x).length g9]))∧Fr W w'):=Lib.hid (fun W hW=>by
      have hlow:∀ b,SB w.heap.size W5.heap.size wr b→b<wr.heap.size:=fun b hb=>by rcases hb with hb | hb;exact Nat.lt_of_lt_of_le hb hfw.size;exact hb.2
      have hsz:=(hf8.trans hW).size
      have e1:(if (JV.mapV acc).kd=6 then (JV.mapV acc).ms else [])=acc:=if_pos rfl
      have h:=twithS_is (JV.mapV acc) x none 0 D g C f C' f' nm W (SB w.heap.size W5.heap.size wr) (fun b hb=>Nat.lt_of_lt_of_le (hlow b hb) hsz) (hV.out.keepS hlow (hf8.trans hW)) (HXA.out.keepS hlow (hf8.trans hW)) (by show acc.length*96≤_;omega) hnl
      rw [e1] at h
      refine h.mono ?_
      rintro e w' ⟨D9,g9,he,hv,hf⟩
      exact ⟨⟨D9,g9,he,SB.next hv (Nat.le_trans hX.out.size hsz) (Nat.le_trans hsz hf.size)⟩,hf⟩)
     obtain ⟨⟨y0,y1,y2,y3,y4⟩,_⟩:=box5 hy8
     obtain ⟨⟨m0,m1,m2,m3,m4,m5⟩,_⟩:=box6 hb8
     have HY8:=Lib.hid hy8
     have HF8:=Lib.hid hf8
     clear hb8 hf8 hy8
     obtain ⟨n9,hn9⟩:∃ n9,(Pt.withM acc nm x).length=n9:=⟨_,rfl⟩
     rw [hn9] at HWI
     have HN9:=Lib.hid hn9
     clear hn9
     go_wp2_with (go_at_call 41;refine (HWI.out _ (Fr.refl W8)).mono ?_;rintro e w9 ⟨⟨D9,g9,rfl,hv9⟩,hf9⟩;have hb9:=HY8.out.keep hf9;obtain ⟨⟨z0,z1,z2,z3,z4⟩,zf0,zf1,zf2,zf3,zf4⟩:=box5 hb9;have HB9:=Lib.hid hb9;have HV9:=Lib.hid hv9;have HF9:=Lib.hid hf9;clear hb9 hv9 hf9)
     have hff:FrX X11 W5 w9:=(hX.out.fr HF8.out).fr HF9.out
     have hlow9:∀ b,SB w.heap.size W5.heap.size w9 b→b<w9.heap.size∧b≠X11:=fun b hb=>by
      have h1:=hfw.size
      have h2:=HF8.out.size
      have h3:=HF9.out.size
      rcases hb with hb | hb
      ·exact ⟨by omega,by omega⟩
      ·exact ⟨hb.2,by have:=hb.1;omega⟩
     exact ⟨⟨i+1,D9,g9,by omega,by go_num,Lib.hid (FrX.trans hff (st5_frx w9 X11 (.int .i64 6) (.int .i64 0) (.string ⟨#[]⟩) (.slice none 0 0) (.slice D9 n9 g9))),Lib.hid (by rw [HNX.out,HN9.out];exact st5_x HB9.out _ _ _ _ _),Lib.hid (by
      rw [HNX.out,HN9.out]
      have h:=HV9.out.frxS hlow9 (st5_frx w9 X11 (.int .i64 6) (.int .i64 0) (.string ⟨#[]⟩) (.slice none 0 0) (.slice D9 n9 g9))
      exact h.more (fun b hb=>by rcases hb with hb | hb;exact .inl hb;exact .inr ⟨hb.1,by have:=st5_size w9 X11 (.int .i64 6) (.int .i64 0) (.string ⟨#[]⟩) (.slice none 0 0) (.slice D9 n9 g9);exact Nat.lt_of_lt_of_eq hb.2 this.symm⟩))⟩,by simp [intOf];omega⟩
    ·obtain rfl:i=ms.length:=by omega
     have hlen:=Pt.foldW_len ms ms.length (Nat.le_refl _)
     rw [List.take_length] at hBr hV hlen
     have ho:=HO5.out.frx hX.out (show X10≠X11 by omega)
     have hx:=HX5.out.frx hX.out (show X0≠X11 by omega)
     have hown:∀ k,(Value.slice (some ⟨G,0,none⟩) 1 1).ownBlock=some k→k=G:=fun k hk=>(Option.some.inj hk).symm
     obtain ⟨SQ,hSQ⟩:∃ SQ:Nat→Prop,SQ=(fun b=>(SL b∨SB w.heap.size W5.heap.size wr b)):=⟨_,rfl⟩
     have hSLG:∀ b,SL b→b<G:=HM5.out.1.1
     have hGw:G<wr.heap.size:=Nat.lt_of_lt_of_le (HM5.out.own_lt rfl).2 hX.out.size
     have hGW:G<W5.heap.size:=(HM5.out.own_lt rfl).2
     have hmT:MgT wr SQ w.heap.size (.slice (some ⟨G,0,none⟩) 1 1) [(Pt.nResp,JV.listV (l.map Pt.respC))]:=by
      refine ((HM5.out.toT.frx2 (fun b hb=>by have:=hSLG b hb;omega) (fun e=>by have:=hown _ e;omega) hX.out).le hK).more (fun b hb=>by rw [hSQ];exact .inl hb) (fun b hb=>?_)
      rw [hSQ] at hb
      have h1:=hfw.size
      rcases hb with hb | hb | hb
      ·have:=hSLG b hb;exact ⟨by omega,fun e=>by have:=hown _ e;omega⟩
      ·exact ⟨by omega,fun e=>by have:=hown _ e;omega⟩
      ·exact ⟨hb.2,fun e=>by have:=hown _ e;have:=hb.1;omega⟩
     have hvQ:InV wr SQ (JV.mapV (Pt.foldW ms)) (.agg #[.int .i64 6,.int .i64 0,.string ⟨#[]⟩,.slice none 0 0,.slice D (Pt.foldW ms).length g]):=hV.out.more (fun b hb=>by rw [hSQ];exact .inr hb)
     have HSQ:Hid (∀ b,SQ b→b≠X10∧b≠X0):=Lib.hid (fun b hb=>by
      rw [hSQ] at hb
      have h2:=HSX.out
      have h3:=HXe.out
      rcases hb with hb | hb | hb
      ·have:=hSLG b hb;exact ⟨by omega,h2 b hb⟩
      ·exact ⟨by omega,by omega⟩
      ·have:=hb.1;exact ⟨by omega,by omega⟩)
     generalize hacc:Pt.foldW ms=acc at hBr hvQ hlen ⊢
     have HACC:=Lib.hid hacc
     obtain ⟨⟨y0,y1,y2,y3,y4⟩,_⟩:=box5 hBr.out
     obtain ⟨⟨o0,o1,o2,o3,o4⟩,_⟩:=box5 ho
     have HO:=Lib.hid ho
     have HX:=Lib.hid hx
     have HMT:=Lib.hid hmT
     have HVQ:=Lib.hid hvQ
     have HFW2:=Lib.hid hfw
     have hX10r:X10<wr.heap.size:=ho.lt
     have hX0r:X0<wr.heap.size:=hx.lt
     clear ho hx hmT hvQ hfw hSQ hacc
     go_upto_region 16 with (at_builtin;refine wpl_mT_lit rfl (.tmp 57) (.tmp 60) rfl SQ w.heap.size _ [(Pt.nResp,JV.listV (l.map Pt.respC))] rfl HMT.out [99,114,101,97,116,101,100,73,100,115] (JV.mapV acc) none 0 D g rfl (by simp) HVQ.out rfl (by simp) (by simp) ?_;intro v15 w15 hv15 hg15 ho15;obtain ⟨A15,c15,e15⟩:=hv15.is_slice;replace e15:v15=.slice A15 2 c15:=e15;subst e15;have hal15:=(Fr.refl wr).alloc (.cells #[.string ⟨#[99,114,101,97,116,101,100,73,100,115]⟩,.int .i64 6,.int .i64 0,.string ⟨#[]⟩,.slice none 0 0,.slice D acc.length g] 44);have hb15:Blk w15 X10 _ _:=(hg15.block X10 (Nat.lt_of_lt_of_le hX10r hal15.size) (fun e=>by have:=hown _ e.symm;omega)).trans (HO.out.keep hal15);obtain ⟨⟨z0,z1,z2,z3,z4⟩,zf0,zf1,zf2,zf3,zf4⟩:=box5 hb15;have HB15:=Lib.hid hb15;have HV15:=Lib.hid hv15;have HG15:=Lib.hid hg15;have HO15:=Lib.hid ho15;clear hb15 hv15 hg15 ho15 hal15)
     have hal15:=HFW2.out.alloc (.cells #[.string ⟨#[99,114,101,97,116,101,100,73,100,115]⟩,.int .i64 6,.int .i64 0,.string ⟨#[]⟩,.slice none 0 0,.slice D acc.length g] 44)
     have hal15r:=(Fr.refl wr).alloc (.cells #[.string ⟨#[99,114,101,97,116,101,100,73,100,115]⟩,.int .i64 6,.int .i64 0,.string ⟨#[]⟩,.slice none 0 0,.slice D acc.length g] 44)
     have hx15:Blk w15 X0 _ _:=(HG15.out.block X0 (Nat.lt_of_lt_of_le hX0r hal15r.size) (fun e=>by have:=hown _ e.symm;omega)).trans (HX.out.keep hal15r)
     have hf15:Fr w w15:=Below.grown hal15 HG15.out hal15.size (fun k hk=>by have:=hown _ hk;omega)
     have hown16:∀ k,k=X10∨k=X0→(Value.slice A15 2 c15).ownBlock≠some k:=fun k hk e=>by
      rcases HO15.out with h6 | h6
      ·rw [h6] at e;have:=hown _ e;rcases hk with rfl | rfl <;> omega
      ·rw [h6] at e;have:=Option.some.inj e;rcases hk with rfl | rfl <;> omega
     have hb16:=HB15.out.set 4 (.slice A15 2 c15)
     have hx16:=hx15.other (p:=⟨X10,4,none⟩) (show X10≠X0 by omega) (.slice A15 2 c15)
     have hm16:=HV15.out.other (a:=⟨X10,4,none⟩) (hown16 _ (.inl rfl)) (fun b hb=>(HSQ.out b hb).1) (.slice A15 2 c15)
     have hf16:=hf15.setCell (p:=⟨X10,4,none⟩) (by show w.heap.size≤X10;omega) (.slice A15 2 c15)
     clear hx15 hf15 hal15 hal15r
     generalize (w15.setCell ⟨X10,4,none⟩ (.slice A15 2 c15))=W16 at hb16 hx16 hm16 hf16 ⊢
     have HS10:Hid (∀ W:World,W.heap[X10]? = W16.heap[X10]? → W.cell? ⟨X10,4,none⟩=some (.slice A15 2 c15)):=Lib.hid (fun W hW=>by
      have a:Blk W X10 _ _:=hW.trans hb16
      exact a.cell 4)
     have HF10:Hid (∀ W,Fr W16 W→W.cell? ⟨X10,4,none⟩=some (.slice A15 2 c15)):=Lib.hid (fun W hW=>HS10.out W (Below.block hW _ hb16.lt))
     go_upto_region 16 with fail
     refine OrdL.begin (x:=7) (fun W=>W.cell? ⟨X10,4,none⟩=some (.slice A15 2 c15)) (by kernel_rfl) ?_ (fun hH=>?_)
     ·exact HF10.out _ (Fr.refl _).drew
     refine OrdL.take (i:=0) (v:=?_) [1,5] rfl (by kernel_rfl) (by kernel_rfl) (by kernel_rfl) (by kernel_rfl) (fun _ _ _ h=>h) (Or.inl ⟨by rfl,?_⟩) hH ?_
     rotate_left
     ·(intro w' hSw;(try dsimp only at hSw);go_simp;try with_reducible rfl)
     try simp only [Act.put,fl]
     refine OrdL.take (i:=1) (v:=?_) [5] rfl (by kernel_rfl) (by kernel_rfl) (by kernel_rfl) (by kernel_rfl) (fun _ _ _ h=>h) (Or.inl ⟨by rfl,?_⟩) hH ?_
     rotate_left
     ·(intro w' hSw;(try dsimp only at hSw);go_simp;try with_reducible rfl)
     try simp only [Act.put,fl]
     refine OrdL.one (i:=2) rfl (by kernel_rfl) (by rfl) (fun K hK=>?_)
     (go_simp;go_at_call 39;refine (etxt_is _ _).mono ?_;rintro e w4 ⟨rfl,hf⟩;have HG4:Hid (Fr W16 w4):=Lib.hid ((Fr.refl W16).drew.trans hf);clear hf)
     refine hK.out _ _ (HF10.out _ HG4.out) (fun hH3=>?_)
     clear hK K
     try simp only [Act.put,fl]
     refine OrdL.take (i:=3) (v:=?_) [4,5] rfl (by kernel_rfl) (by kernel_rfl) (by kernel_rfl) (by kernel_rfl) (fun _ _ _ h=>h) (Or.inl ⟨by rfl,?_⟩) hH3 ?_
     rotate_left
     ·(intro w' hSw;(try dsimp only at hSw);go_simp;try with_reducible rfl)
     try simp only [Act.put,fl]
     refine OrdL.one (i:=4) rfl (by kernel_rfl) (by rfl) (fun K hK=>?_)
     go_simp
     refine hK.out _ _ (HF10.out _ (HG4.out.alloc _)) (fun hH4=>?_)
     clear hK K
     try simp only [Act.put,fl]
     have hm4:=hm16.keep HG4.out
     refine OrdL.one (i:=5) rfl (by kernel_rfl) (by rfl) (fun K hK=>?_)
     refine step_mT_lit rfl (.tmp 64) (.tmp 67) rfl SQ w.heap.size _ [(Pt.nResp,JV.listV (l.map Pt.respC)),(Pt.nIds,JV.mapV acc)] rfl hm4 [115,101,115,115,105,111,110,83,116,97,116,101] (JV.textV [48]) none 0 none 0 (by simp [JV.textV,JV.kd,JV.nm,JV.tx,JV.ls,JV.ms]) (by simp) (txt_in _ _ _ (by simp)) 1 1 rfl rfl rfl (by simp) ?_
     intro v9 w9 hs9 hg9 ho9
     obtain ⟨A9,c9,e9⟩:=hs9.is_slice
     replace e9:v9=.slice A9 3 c9:=e9
     subst e9
     have hal4:=HG4.out.alloc (.cells #[.string ⟨#[115,101,115,115,105,111,110,83,116,97,116,101]⟩,.int .i64 4,.int .i64 0,.string ⟨#[48]⟩,.slice none 0 0,.slice none 0 0] 44)
     have hX10l:X10<W16.heap.size:=hb16.lt
     have hX0l:X0<W16.heap.size:=hx16.lt
     have hb9:Blk w9 X10 _ _:=(hg9.block X10 (Nat.lt_of_lt_of_le hX10l hal4.size) (fun e=>hown16 X10 (.inl rfl) e.symm)).trans (hb16.keep hal4)
     have hx9:Blk w9 X0 _ _:=(hg9.block X0 (Nat.lt_of_lt_of_le hX0l hal4.size) (fun e=>hown16 X0 (.inr rfl) e.symm)).trans (hx16.keep hal4)
     have hf9:Fr w w9:=Below.grown (hf16.trans hal4) hg9 (hf16.trans hal4).size (fun k hk=>(hm16.own_lt hk).1)
     have ho9:(Value.slice A9 3 c9).ownBlock=(Value.slice A15 2 c15).ownBlock∨(Value.slice A9 3 c9).ownBlock=some (w4.heap.size+1):=ho9
     have hown9:∀ k,k=X10∨k=X0→(Value.slice A9 3 c9).ownBlock≠some k:=fun k hk e=>by
      have hz:=HG4.out.size
      rcases ho9 with h6 | h6
      ·rw [h6] at e;exact hown16 k hk e
      ·rw [h6] at e;have:=Option.some.inj e;rcases hk with rfl | rfl <;> omega
     refine hK.out _ _ (HS10.out _ (hb9.trans hb16.symm)) (fun hH5=>?_)
     clear hK K
     try simp only [Act.put,fl]
     obtain ⟨⟨y0,y1,y2,y3,y4⟩,yf0,yf1,yf2,yf3,yf4⟩:=box5 hb9
     refine OrdL.take (i:=6) (v:=?_) [] rfl (by kernel_rfl) (by kernel_rfl) (by kernel_rfl) (by kernel_rfl) (fun _ _ _ h=>h) (Or.inl ⟨by rfl,?_⟩) hH5 ?_
     rotate_left
     ·(intro w' hSw;(try dsimp only at hSw);go_simp;try with_reducible rfl)
     try simp only [Act.put,fl]
     refine OrdL.last rfl (by kernel_rfl) (by kernel_rfl) (fun K hK=>?_)
     go_simp
     refine hK.out _ _ ?_
     clear hK K
     try simp only [Act.put,fl]
     go_upto_region 17 with fail
     have hb17:=hb9.set 4 (.slice A9 3 c9)
     have hx17:=hx9.other (p:=⟨X10,4,none⟩) (show X10≠X0 by omega) (.slice A9 3 c9)
     have hm17:=hs9.other (a:=⟨X10,4,none⟩) (fun e=>hown9 _ (.inl rfl) e) (fun b hb=>(HSQ.out b hb).1) (.slice A9 3 c9)
     have hf17:Fr w (w9.setCell ⟨X10,4,none⟩ (.slice A9 3 c9)):=hf9.setCell (p:=⟨X10,4,none⟩) (by show w.heap.size≤X10;omega) _
     clear hb9 hx9 hs9 hf9 hH5 y0 y1 y2 y3 y4 yf0 yf1 yf2 yf3 yf4
     generalize (w9.setCell ⟨X10,4,none⟩ (.slice A9 3 c9))=W17 at hb17 hx17 hm17 hf17 ⊢
     obtain ⟨⟨y0,y1,y2,y3,y4⟩,_⟩:=box5 hb17
     obtain ⟨⟨r0,r1,r2,r3,r4⟩,rf0,rf1,rf2,rf3,rf4⟩:=box5 hx17
     have HX17:=Lib.hid hx17
     have HM17:=Lib.hid hm17
     have HF17:=Lib.hid hf17
     clear hb17 hx17 hm17 hf17
     have nX:¬ X0=X10:=by omega
     have nX2:¬ X10=X0:=by omega
     go_wp2_with fail
     refine bodyPost_ret (results_cv (by rfl) rfl _ X0 (by rfl) _ _ _ _ _ (set5 HX17.out)) rfl ?_
     rw [HACC.out]
     exact ⟨⟨A9,c9,SQ,rfl,HM17.out.frx2 (fun b hb=>(HSQ.out b hb).2) (fun e=>hown9 _ (.inr rfl) e) (st5_frx _ X0 _ _ _ _ _)⟩,st5_fr HF17.out HXe.out _ _ _ _ _⟩
end Go.Proofs.YtockgemmkjdnkaaGreatDoor
