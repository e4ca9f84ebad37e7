/- tree.Copy: the same value, in new memory that may be written. -/
import Derived.Test.YtlmcfhokfiibkaaGreatDoorCpa
namespace Go.Proofs.YtlmcfhokfiibkaaGreatDoor
set_option maxRecDepth 100000
set_option maxHeartbeats 4000000
set_option linter.unusedVariables false
set_option linter.unusedSimpArgs false
open Go.RowKit

def SB (B:Nat) (W:World) (b:Nat):Prop:=(B≤b∧b<W.heap.size) ∧ ∃ cur T,Blk W b cur T
theorem SB.keep {B B':Nat} {W W':World} {b:Nat} (h:SB B W b) (hf:Fr W W') (hB:B≤b→B'≤b):SB B' W' b:=by
 obtain ⟨⟨h1,h2⟩,cur,T,h3⟩:=h
 exact ⟨⟨hB h1,Nat.lt_of_lt_of_le h2 hf.size⟩,cur,T,h3.keep hf⟩
theorem SB.frx {B B' X:Nat} {W W':World} {b:Nat} (h:SB B W b) (hf:FrX X W W') (hX:b≠X) (hB:B≤b→B'≤b):SB B' W' b:=by
 obtain ⟨⟨h1,h2⟩,cur,T,h3⟩:=h
 exact ⟨⟨hB h1,Nat.lt_of_lt_of_le h2 hf.size⟩,cur,T,h3.frx hf hX⟩
def CpAtS (u:JV):Prop:=∀ (x:Value) (w:World),InV w (Lo w.heap.size) u x→Rd.nv u≤1048576→Calls Tryz.prog 17 #[x] w fun e w'=>(∃ (C:Option Addr) (f:Nat) (C':Option Addr) (f':Nat),e=.returned (vA u C f C' f')∧InV w' (SB w.heap.size w') u (vA u C f C' f'))∧Fr w w'
def CpQS (u:JV):Prop:=∀ (x:Value) (w:World),InV w (Lo w.heap.size) u x→Rd.nv u≤1048576→Calls Tryz.prog 17 #[x] w fun e w'=>(∃ (C:Option Addr) (f:Nat) (C':Option Addr) (f':Nat),e=.returned (vA u C f C' f')∧InV w' (SB w.heap.size w') u (vA u C f C' f')∧(0<u.ms.length → ∃ g,C'=some ⟨g,0,none⟩∧w.heap.size≤g∧CqI w' g u.ms (fun b=>SB w.heap.size w' b∧b≠g) (Lo w.heap.size) u.ms.length))∧Fr w w'
theorem CpQS.weak {u:JV} (h:CpQS u):CpAtS u:=fun x w hx hn=>(h x w hx hn).mono (by
 rintro e w' ⟨⟨C,f,C',f',rfl,hi,_⟩,hf⟩
 exact ⟨⟨C,f,C',f',rfl,hi⟩,hf⟩)
theorem sb_lt {B:Nat} {W:World}:∀ b,SB B W b→b<W.heap.size:=fun b hb=>hb.1.2

theorem copyS_step (u:JV) (ihl:∀ x∈u.ls,CpAtS x) (ihm:∀ p∈u.ms,CpAtS p.2):CpQS u:=by
 intro x w hx hn
 obtain ⟨A,c,A',c',rfl,hls,hms⟩:=hx.open_
 obtain ⟨⟨f1,f2⟩,⟨f3,f4⟩,f5,f6,f7⟩:=hx.facts
 have hnu:=Pt.nv_eq u
 have hll:=Pt.nvL_len u.ls
 have hml:=Cp.nvM_len u.ms
 have hll2:u.ls.length*80≤140737488355328:=by omega
 have hml2:u.ms.length*96≤140737488355328:=by omega
 have hll3:(u.ls.length:Int)≤1048576:=by omega
 have hml3:(u.ms.length:Int)≤1048576:=by omega
 have HLS:=Lib.hid hls
 have HMS:=Lib.hid hms
 have HFA:=Lib.hid (show (-9223372036854775808≤u.nm∧u.nm≤9223372036854775807)∧(-9223372036854775808≤u.kd∧u.kd≤9223372036854775807)∧u.tx.length≤140737488355328 from ⟨⟨f1,f2⟩,⟨f3,f4⟩,f5⟩)
 have HNL:Hid (∀ x∈u.ls,Rd.nv x≤1048576):=Lib.hid (fun x hx=>by have:=Pt.nvL_mem hx;omega)
 have HNM:Hid (∀ p∈u.ms,Rd.nv p.2≤1048576):=Lib.hid (fun p hp=>by have:=Pt.nvM_mem hp;omega)
 have HIL:=Lib.hid ihl
 have HIM:=Lib.hid ihm
 clear hx hn hls hms f1 f2 f3 f4 f5 f6 f7 hnu hll hml ihl ihm
 show Calls Tryz.prog 17 #[.agg #[.int .i64 u.kd,.int .i64 u.nm,.string ⟨u.tx.toArray⟩,.slice A u.ls.length c,.slice A' u.ms.length c']] w _
 go_enter Tryz.func17,Tryz.ntmps17
 go_upto_region 1 with fail
 have hx0:Blk ((w.alloc (.cells #[.int .i64 u.kd,.int .i64 u.nm,.string ⟨u.tx.toArray⟩,.slice A u.ls.length c,.slice A' u.ms.length c'] 25)).alloc (.cells #[.int .i64 0,.int .i64 0,.string ⟨#[]⟩,.slice none 0 0,.slice none 0 0] 25)) w.heap.size #[.int .i64 u.kd,.int .i64 u.nm,.string ⟨u.tx.toArray⟩,.slice A u.ls.length c,.slice A' u.ms.length c'] 25:=(Blk.made w _ _).keep ((Fr.refl _).alloc _)
 have hy0:Blk ((w.alloc (.cells #[.int .i64 u.kd,.int .i64 u.nm,.string ⟨u.tx.toArray⟩,.slice A u.ls.length c,.slice A' u.ms.length c'] 25)).alloc (.cells #[.int .i64 0,.int .i64 0,.string ⟨#[]⟩,.slice none 0 0,.slice none 0 0] 25)) (w.heap.size+1) #[.int .i64 0,.int .i64 0,.string ⟨#[]⟩,.slice none 0 0,.slice none 0 0] 25:=boxz (Blk.made (w.alloc _) _ _)
 have hf0:Fr w ((w.alloc (.cells #[.int .i64 u.kd,.int .i64 u.nm,.string ⟨u.tx.toArray⟩,.slice A u.ls.length c,.slice A' u.ms.length c'] 25)).alloc (.cells #[.int .i64 0,.int .i64 0,.string ⟨#[]⟩,.slice none 0 0,.slice none 0 0] 25)):=((Fr.refl w).alloc _).alloc _
 generalize ((w.alloc (.cells #[.int .i64 u.kd,.int .i64 u.nm,.string ⟨u.tx.toArray⟩,.slice A u.ls.length c,.slice A' u.ms.length c'] 25)).alloc (.cells #[.int .i64 0,.int .i64 0,.string ⟨#[]⟩,.slice none 0 0,.slice none 0 0] 25))=W1 at hx0 hy0 hf0 ⊢
 generalize hY:w.heap.size+1=X2 at hy0 ⊢
 obtain ⟨X1,hX⟩:∃ X,w.heap.size=X:=⟨_,rfl⟩
 rw [hX] at hx0 ⊢
 have hX1:w.heap.size≤X1:=Nat.le_of_eq hX
 have hX12:X1<X2:=by omega
 clear hX hY
 have HX1:=Lib.hid hx0
 have HX2:=Lib.hid hy0
 have HF0:=Lib.hid hf0
 have hX2W:=hy0.lt
 have HSW:Hid (∀ W,Fr W1 W→W.cell? ⟨X1,3,none⟩=some (.slice A u.ls.length c)∧W.cell? ⟨X1,4,none⟩=some (.slice A' u.ms.length c')):=Lib.hid (fun W hW=>by
  have a:=HX1.out.keep hW
  exact ⟨a.cell 3,a.cell 4⟩)
 have HCV:Hid (∀ W,Fr W1 W→Calls Tryz.prog 34 #[.slice A u.ls.length c] W fun e w'=>∃ v',e=.returned v'∧VsB w' w.heap.size W.heap.size v' u.ls∧Fr W w'):=Lib.hid (fun W hW=>clone_v_is u.ls A c W w.heap.size (Nat.le_trans HF0.out.size hW.size) (HLS.out.keep (Nat.le_refl _) (HF0.out.trans hW)) hll2)
 have HCM:Hid (∀ W,Fr W1 W→Calls Tryz.prog 35 #[.slice A' u.ms.length c'] W fun e w'=>∃ v',e=.returned v'∧MsB w' w.heap.size W.heap.size v' u.ms∧Fr W w'):=Lib.hid (fun W hW=>clone_m_is u.ms A' c' W w.heap.size (Nat.le_trans HF0.out.size hW.size) (HMS.out.keep (Nat.le_refl _) (HF0.out.trans hW)) hml2)
 clear hx0 hy0 hf0
 go_upto_region 1 with fail
 refine OrdM.begin (x:=7) (fun W=>W.cell? ⟨X1,3,none⟩=some (.slice A u.ls.length c)∧W.cell? ⟨X1,4,none⟩=some (.slice A' u.ms.length c')) (by kernel_rfl) ?_ (fun hH=>?_)
 ·exact HSW.out _ (Fr.refl _).drew
 refine mq 0 [1,2] rfl hH ?_
 try simp only [Act.put,fl]
 refine mq 1 [2] rfl hH ?_
 try simp only [Act.put,fl]
 refine mq 3 [4,5] rfl hH ?_
 try simp only [Act.put,fl]
 refine mq 4 [5] rfl hH ?_
 try simp only [Act.put,fl]
 refine OrdM.one (i:=2) rfl (by kernel_rfl) (fun K hK=>?_)
 (go_simp;go_at_call 34;refine (HCV.out _ (Fr.refl W1).drew).mono ?_;rintro e w2 ⟨v2,rfl,hv2,hf⟩;obtain ⟨A2,c2,rfl⟩:=hv2.is_slice;have HV2:=Lib.hid hv2;have HF2:Hid (Fr W1 w2):=Lib.hid ((Fr.refl W1).drew.trans hf);clear hv2 hf)
 refine hK.out _ _ (HSW.out _ HF2.out) (fun hH2=>?_)
 clear hK K
 try simp only [Act.put,fl]
 refine mq 6 [] rfl hH2 ?_
 try simp only [Act.put,fl]
 refine OrdM.one (i:=5) rfl (by kernel_rfl) (fun K hK=>?_)
 (go_simp;go_at_call 35;refine (HCM.out _ HF2.out).mono ?_;rintro e w3 ⟨v3,rfl,hv3,hf⟩;obtain ⟨A3,c3,rfl⟩:=hv3.is_slice;have HV3:=Lib.hid hv3;have HF3:Hid (Fr w2 w3):=Lib.hid hf;clear hv3 hf)
 refine hK.out _ _ (HSW.out _ (HF2.out.trans HF3.out)) (fun hH3=>?_)
 clear hK K
 try simp only [Act.put,fl]
 have hx3:=HX1.out.keep (HF2.out.trans HF3.out)
 obtain ⟨⟨y0,y1,y2,y3,y4⟩,yf0,yf1,yf2,yf3,yf4⟩:=box5 hx3
 refine OrdM.ex 7 rfl (by rfl) (by kernel_rfl) (fun K hK=>?_)
 go_simp
 refine hK.out _ _ ?_
 clear hK K
 try simp only [Act.put,fl]
 refine OrdM.ex 8 rfl (by rfl) (by kernel_rfl) (fun K hK=>?_)
 go_simp
 refine hK.out _ _ ?_
 clear hK K
 try simp only [Act.put,fl]
 clear y0 y1 y2 y3 y4 yf0 yf1 yf2 yf3 yf4
 have hx4:=hx3.set 3 (.slice A2 u.ls.length c2)
 obtain ⟨⟨y0,y1,y2,y3,y4⟩,yf0,yf1,yf2,yf3,yf4⟩:=box5 hx4
 refine OrdM.last 9 rfl (by rfl) (by kernel_rfl) (by kernel_rfl) (fun K hK=>?_)
 go_simp
 refine hK.out _ _ ?_
 clear hK K
 try simp only [Act.put,fl]
 have hx5:=hx4.set 4 (.slice A3 u.ms.length c3)
 have hd1:W1.drew.heap.size=W1.heap.size:=rfl
 have hs1:=HF2.out.size
 have hs2:=HF3.out.size
 have hfx:FrX X1 w3 ((w3.setCell ⟨X1,3,none⟩ (.slice A2 u.ls.length c2)).setCell ⟨X1,4,none⟩ (.slice A3 u.ms.length c3)):=((FrX.refl X1 w3).setCell (p:=⟨X1,3,none⟩) rfl _).setCell (p:=⟨X1,4,none⟩) rfl _
 have hv2:=(HV2.out.keep HF3.out).frx hX1 (by omega) hfx
 have hv3:=HV3.out.frx hX1 (by omega) hfx
 have hy5:=((HX2.out.keep (HF2.out.trans HF3.out)).frx hfx (by omega))
 have hf5:Fr w ((w3.setCell ⟨X1,3,none⟩ (.slice A2 u.ls.length c2)).setCell ⟨X1,4,none⟩ (.slice A3 u.ms.length c3)):=Fr.thenY ((HF0.out.trans HF2.out).trans HF3.out) hX1 (by omega) hfx
 have hs5:w3.heap.size=((w3.setCell ⟨X1,3,none⟩ (.slice A2 u.ls.length c2)).setCell ⟨X1,4,none⟩ (.slice A3 u.ms.length c3)).heap.size:=by simp [World.setCell]
 have HFX:=Lib.hid hfx
 clear y0 y1 y2 y3 y4 yf0 yf1 yf2 yf3 yf4 hx3 hx4 hfx hH hH2 hH3
 generalize ((w3.setCell ⟨X1,3,none⟩ (.slice A2 u.ls.length c2)).setCell ⟨X1,4,none⟩ (.slice A3 u.ms.length c3))=W4 at hx5 hv2 hv3 hy5 hf5 hs5 HFX ⊢
 have HFX5:=HFX
 -- the list
 obtain ⟨gL,hgL1,hgL3,hgL2,hgL⟩:∃ gL,(W1.heap.size≤gL∧gL≤W4.heap.size)∧(¬ 0<u.ls.length→gL=W4.heap.size)∧(0<u.ls.length→gL<w2.heap.size)∧Hid (0<u.ls.length→A2=some ⟨gL,0,none⟩ ∧ ∃ O:Nat→Prop,(∀ b,O b→b<w2.heap.size∧b≠gL∧b≠X1)∧CpI W4 gL u.ls (fun _=>False) O 0):=by
  by_cases h0:0<u.ls.length
  ·obtain ⟨g,O,hA,hK,hO,hc⟩:=HV2.out.cp h0 (fun _=>False)
   obtain ⟨cur,hcur,_⟩:=hc.blk
   have hgl:=hcur.lt
   have hO2:∀ b,O b→b<w2.heap.size∧b≠g∧b≠X1:=fun b hb=>by
    obtain ⟨h1,h2,h3⟩:=hO b hb
    exact ⟨h1,h2,by rcases h3 with h3 | h3 <;> omega⟩
   refine ⟨g,⟨by omega,by omega⟩,fun h=>absurd h0 h,fun _=>hgl,Lib.hid (fun _=>⟨hA,O,hO2,?_⟩)⟩
   exact (hc.keep HF3.out (fun _ h=>h.elim) (fun b hb=>(hO2 b hb).1)).frx HFX5.out (by omega) (fun _ h=>h.elim) (fun b hb=>by have:=(hO2 b hb).1;omega) (fun _ h=>h.elim) (fun b hb=>(hO2 b hb).2.2)
  ·exact ⟨W4.heap.size,⟨by omega,Nat.le_refl _⟩,fun _=>rfl,fun h=>absurd h h0,Lib.hid (fun h=>absurd h h0)⟩
 have HX5:=Lib.hid hx5
 have HM5:=Lib.hid hv3
 have HY5:=Lib.hid hy5
 have HF5:=Lib.hid hf5
 obtain ⟨⟨y0,y1,y2,y3,y4⟩,_⟩:=box5 hx5
 clear hx5 hv2 hv3 hy5 hf5 HV2 HV3 HSW HCV HCM HX1 HX2 HFX HFX5
 go_upto_region 3 with fail
 clear y0 y1 y2 y3 y4
 go_loopw [16] (fun j wr=>∃ (i:Nat),i≤u.ls.length∧j=.int .i64 i∧Hid (FrX gL W4 wr)∧Hid (0<u.ls.length → ∃ O:Nat→Prop,(∀ b,O b→b<w2.heap.size∧b≠gL∧b≠X1)∧CpI wr gL u.ls (SB W4.heap.size wr) O i)) (fun j _=>u.ls.length - (intOf j).toNat)
 case atStart=>
  refine ⟨0,by omega,rfl,Lib.hid (FrX.refl gL W4),Lib.hid (fun h=>?_)⟩
  obtain ⟨_,O,h1,h2⟩:=hgL.out h
  exact ⟨O,h1,h2.more (fun _ h=>h.elim)⟩
 case round=>
  obtain ⟨i,hi,rfl,hX,hC⟩:=hrel
  have hx6:=HX5.out.frx hX.out (show X1≠gL by omega)
  have hsz:=hX.out.size
  by_cases hlt:i<u.ls.length
  ·have hlt':(i:Int)<(u.ls.length:Int):=by omega
   have hn0:0<u.ls.length:=by omega
   obtain ⟨O,hO,hcp⟩:=hC.out hn0
   obtain ⟨rfl,_⟩:=hgL.out hn0
   have hgW:=hgL2 hn0
   obtain ⟨C,f,C',f',hvc,hin⟩:=hcp.at_ i hlt
   rw [if_neg (Nat.lt_irrefl i)] at hin
   obtain ⟨g,hg⟩:∃ g,gL=g:=⟨_,rfl⟩
   have hOb:∀ b,O b→b<wr.heap.size:=fun b hb=>by have:=(hO b hb).1;omega
   have hxm:=List.getElem_mem hlt
   have hcpx:=HIL.out _ hxm
   have hnvx:=HNL.out _ hxm
   have hC9:∀ W,Fr wr W→CpI W gL u.ls (SB W4.heap.size W) O i:=fun W hW=>(hcp.keep hW sb_lt hOb).more (fun b hb=>hb.keep hW id)
   obtain ⟨x,hxe⟩:∃ x,u.ls[i]=x:=⟨_,rfl⟩
   rw [hxe] at hvc hin hcpx hnvx
   rw [hg] at hvc hx6 hC9 hgW ⊢
   obtain ⟨cur,hcur,_⟩:=hcp.blk
   rw [hg] at hcur
   have HS5:Hid (∀ W,Fr wr W→W.cell? ⟨X1,3,none⟩=some (.slice (some ⟨g,0,none⟩) u.ls.length c2)∧(W.cell? ⟨g,i*5,none⟩=some (.int .i64 x.kd)∧W.cell? ⟨g,i*5+1,none⟩=some (.int .i64 x.nm)∧W.cell? ⟨g,i*5+2,none⟩=some (.string ⟨x.tx.toArray⟩)∧W.cell? ⟨g,i*5+3,none⟩=some (.slice C x.ls.length f)∧W.cell? ⟨g,i*5+4,none⟩=some (.slice C' x.ms.length f'))):=Lib.hid (fun W hW=>by
    have a:=hx6.keep hW
    have hk:∀ o,W.cell? ⟨g,o,none⟩=wr.cell? ⟨g,o,none⟩:=fun o=>hW.cell hcur.lt
    exact ⟨a.cell 3,(hk _).trans hvc.1,(hk _).trans hvc.2.1,(hk _).trans hvc.2.2.1,(hk _).trans hvc.2.2.2.1,(hk _).trans hvc.2.2.2.2⟩)
   have HCP:Hid (∀ W,Fr wr W→Calls Tryz.prog 17 #[.agg #[.int .i64 x.kd,.int .i64 x.nm,.string ⟨x.tx.toArray⟩,.slice C x.ls.length f,.slice C' x.ms.length f']] W fun e w'=>(∃ (D:Option Addr) (d:Nat) (D':Option Addr) (d':Nat),e=.returned (.agg #[.int .i64 x.kd,.int .i64 x.nm,.string ⟨x.tx.toArray⟩,.slice D x.ls.length d,.slice D' x.ms.length d'])∧InV w' (SB W.heap.size w') x (vA x D d D' d'))∧Fr W w'):=Lib.hid (fun W hW=>hcpx (vA x C f C' f') W (hin.map (fun b hb=>Nat.lt_of_lt_of_le (hOb b hb) hW.size) (fun b o hb=>hW.cell (hOb b hb))) hnvx)
   have HC9:=Lib.hid hC9
   have HO:=Lib.hid hO
   have HXE:=Lib.hid hxe
   clear hvc hin hcpx hnvx hcp hcur hx6 hxm
   go_upto_region 5 with fail
   refine OrdL.begin (x:=10) (fun W=>W.cell? ⟨X1,3,none⟩=some (.slice (some ⟨g,0,none⟩) u.ls.length c2)∧(W.cell? ⟨g,i*5,none⟩=some (.int .i64 x.kd)∧W.cell? ⟨g,i*5+1,none⟩=some (.int .i64 x.nm)∧W.cell? ⟨g,i*5+2,none⟩=some (.string ⟨x.tx.toArray⟩)∧W.cell? ⟨g,i*5+3,none⟩=some (.slice C x.ls.length f)∧W.cell? ⟨g,i*5+4,none⟩=some (.slice C' x.ms.length f'))) (by kernel_rfl) ?_ (fun hH=>?_)
   ·exact HS5.out _ (Fr.refl _).drew
   refine lq 0 [1,9] rfl hH ?_
   try simp only [Act.put,fl]
   refine lq 1 [9] rfl hH ?_
   try simp only [Act.put,fl]
   refine lq 2 [9] rfl hH ?_
   try simp only [Act.put,fl]
   refine lq 3 [4,6,7,8] rfl hH ?_
   try simp only [Act.put,fl]
   refine lq 4 [6,7,8] rfl hH ?_
   try simp only [Act.put,fl]
   refine lq 5 [6,7,8] rfl hH ?_
   try simp only [Act.put,fl]
   refine lq 6 [7,8] rfl hH ?_
   try simp only [Act.put,fl]
   refine lq 7 [8] rfl hH ?_
   try simp only [Act.put,fl]
   refine OrdL.one (i:=8) rfl (by kernel_rfl) (by rfl) (fun K hK=>?_)
   (go_simp;go_at_call 17;refine (HCP.out _ (Fr.refl wr).drew).mono ?_;rintro e w9 ⟨⟨D,d,D',d',rfl,hv9⟩,hf9⟩;have HV9:=Lib.hid hv9;have HF9:Hid (Fr wr w9):=Lib.hid ((Fr.refl wr).drew.trans hf9);clear hv9 hf9)
   refine hK.out _ _ (HS5.out _ HF9.out) (fun hH3=>?_)
   clear hK K
   try simp only [Act.put,fl]
   refine lq 9 [] rfl hH3 ?_
   try simp only [Act.put,fl]
   obtain ⟨cur9,hk9,hz9⟩:=(hC9 _ HF9.out).blk
   have q0:∃ v,w9.cell? ⟨g,i*5,none⟩=some v:=⟨_,(hk9.cell _).trans (Array.getElem?_eq_getElem (by omega))⟩
   have q1:∃ v,w9.cell? ⟨g,i*5+1,none⟩=some v:=⟨_,(hk9.cell _).trans (Array.getElem?_eq_getElem (by omega))⟩
   have q2:∃ v,w9.cell? ⟨g,i*5+2,none⟩=some v:=⟨_,(hk9.cell _).trans (Array.getElem?_eq_getElem (by omega))⟩
   have q3:∃ v,w9.cell? ⟨g,i*5+3,none⟩=some v:=⟨_,(hk9.cell _).trans (Array.getElem?_eq_getElem (by omega))⟩
   have q4:∃ v,w9.cell? ⟨g,i*5+4,none⟩=some v:=⟨_,(hk9.cell _).trans (Array.getElem?_eq_getElem (by omega))⟩
   obtain ⟨m0,hm0⟩:=q0
   obtain ⟨m1,hm1⟩:=q1
   obtain ⟨m2,hm2⟩:=q2
   obtain ⟨m3,hm3⟩:=q3
   obtain ⟨m4,hm4⟩:=q4
   have hf0:=hk9.free (i*5)
   have hf1:=hk9.free (i*5+1)
   have hf2:=hk9.free (i*5+2)
   have hf3:=hk9.free (i*5+3)
   have hf4:=hk9.free (i*5+4)
   refine OrdL.last rfl (by kernel_rfl) (by kernel_rfl) (fun K hK=>?_)
   go_simp
   refine hK.out _ _ ?_
   clear hK K
   try simp only [Act.put,fl]
   have hd9:wr.drew.heap.size=wr.heap.size:=rfl
   have hb9:=HF9.out.size
   have hst:=(HC9.out _ HF9.out).step hlt (S:=SB W4.heap.size w9) (fun b hb e=>by have:=hb.1.1;omega) (fun b hb=>by rw [← hg];exact (HO.out b hb).2.1) (C:=D) (f:=d) (C':=D') (f':=d') (by
    rw [HXE.out]
    exact HV9.out.more (fun b hb=>⟨⟨by have:=hb.1.1;omega,hb.1.2⟩,hb.2⟩))
   rw [HXE.out] at hst
   have hfr:=st5g_frx w9 g (i*5) (.int .i64 x.kd) (.int .i64 x.nm) (.string ⟨x.tx.toArray⟩) (.slice D x.ls.length d) (.slice D' x.ms.length d')
   have hsz9:=st5g_size w9 g (i*5) (.int .i64 x.kd) (.int .i64 x.nm) (.string ⟨x.tx.toArray⟩) (.slice D x.ls.length d) (.slice D' x.ms.length d')
   rw [hg] at hX hO
   go_wp2_with fail
   subst hg
   exact ⟨⟨i+1,by omega,by go_num,Lib.hid (FrX.trans (hX.out.fr HF9.out) hfr),Lib.hid (fun _=>⟨O,HO.out,hst.more (fun b hb=>hb.frx hfr (by have:=hb.1.1;omega) id)⟩)⟩,by simp [intOf];omega⟩
  ·obtain rfl:i=u.ls.length:=by omega
   obtain ⟨WB,hWBe⟩:∃ W,W=wr:=⟨_,rfl⟩
   subst hWBe
   have hw1:=HF0.out.size
   have hm6:MsB WB w.heap.size w2.heap.size (.slice A3 u.ms.length c3) u.ms:=by
    by_cases h0:0<u.ls.length
    ·exact HM5.out.frx (by omega) (hgL2 h0) hX.out
    ·exact HM5.out.keep (by
      have hb:=hX.out.below (by omega)
      rw [hgL3 h0] at hb
      exact hb)
   obtain ⟨S1,hS1,hSf,hls6⟩:∃ S1:Nat→Prop,(∀ b,S1 b→W1.heap.size≤b∧b<WB.heap.size∧(b<w2.heap.size∨W4.heap.size≤b))∧(∀ b,S1 b → ∃ cur T,Blk WB b cur T)∧Hid (LsC WB S1 A2 u.ls):=by
    by_cases h0:0<u.ls.length
    ·obtain ⟨O,_,hcp⟩:=hC.out h0
     obtain ⟨hA2,_⟩:=hgL.out h0
     have hg2:=hgL2 h0
     refine ⟨fun b=>b=gL∨SB W4.heap.size WB b,fun b hb=>?_,fun b hb=>?_,Lib.hid (by rw [hA2];exact hcp.lsC (.inl rfl) (fun b hb=>.inr hb))⟩
     rcases hb with rfl | hb
     ·omega
     ·have:=hb.1.1
      have:=hb.1.2
      omega
     ·rcases hb with rfl | hb
      ·obtain ⟨cur,hcur,_⟩:=hcp.blk
       exact ⟨cur,_,hcur⟩
      ·exact hb.2
    ·exact ⟨fun _=>False,fun _ h=>h.elim,fun _ h=>h.elim,Lib.hid (fun i hi=>absurd hi (by omega))⟩
   obtain ⟨gM,hgM1,hgM2,hgM⟩:∃ gM,(w2.heap.size≤gM∧gM≤WB.heap.size)∧(gM<W4.heap.size∨gM=WB.heap.size)∧Hid (0<u.ms.length→A3=some ⟨gM,0,none⟩∧gM<W4.heap.size∧CqI WB gM u.ms (fun _=>False) (Lo w.heap.size) 0):=by
    by_cases h0:0<u.ms.length
    ·obtain ⟨g,hA,hK,hc⟩:=hm6.cq h0 (fun _=>False)
     obtain ⟨g',hA',_,hc'⟩:=HM5.out.cq h0 (fun _=>False)
     obtain ⟨cur,hcur,_⟩:=hc'.blk
     have hgl:=hcur.lt
     have he:g=g':=by
      have:=hA.symm.trans hA'
      injection this with this
      injection this
     rw [← he] at hgl
     exact ⟨g,⟨hK,by omega⟩,.inl hgl,Lib.hid (fun _=>⟨hA,hgl,hc⟩)⟩
    ·exact ⟨WB.heap.size,⟨by omega,Nat.le_refl _⟩,.inr rfl,Lib.hid (fun h=>absurd h h0)⟩
   have hy7:=HY5.out.frx hX.out (show X2≠gL by omega)
   have hf7:Fr w WB:=Fr.thenY HF5.out (show w.heap.size≤gL by omega) (by omega) hX.out
   have HX7:=Lib.hid hx6
   have HY7:=Lib.hid hy7
   have HF7:=Lib.hid hf7
   have hw7:=hf7.size
   obtain ⟨⟨y0,y1,y2,y3,y4⟩,_⟩:=box5 hx6
   clear hx6 hy7 hf7 hm6 hC hX hgL HM5 HX5 HY5 HF5 hlt hi
   go_upto_region 8 with fail
   clear y0 y1 y2 y3 y4
   go_loopw [33] (fun j wr=>∃ (i:Nat),i≤u.ms.length∧j=.int .i64 i∧Hid (FrX gM WB wr)∧Hid (0<u.ms.length→CqI wr gM u.ms (SB WB.heap.size wr) (Lo w.heap.size) i)) (fun j _=>u.ms.length - (intOf j).toNat)
   case atStart=>exact ⟨0,by omega,rfl,Lib.hid (FrX.refl gM WB),Lib.hid (fun h=>(hgM.out h).2.2.more (fun _ h=>h.elim))⟩
   case round=>
    obtain ⟨i,hi,rfl,hX,hC⟩:=hrel
    have hx8:=HX7.out.frx hX.out (show X1≠gM by omega)
    have hsz3:=hX.out.size
    by_cases hlt:i<u.ms.length
    ·have hlt':(i:Int)<(u.ms.length:Int):=by omega
     have hn0:0<u.ms.length:=by omega
     have hcq:=hC.out hn0
     obtain ⟨rfl,hgW,_⟩:=hgM.out hn0
     obtain ⟨C,f,C',f',hnl,hn00,hvc,hin⟩:=hcq.at_ i hlt
     rw [if_neg (Nat.lt_irrefl i)] at hin
     obtain ⟨g,hg⟩:∃ g,gM=g:=⟨_,rfl⟩
     have hOb:∀ b,Lo w.heap.size b→b<wr.heap.size:=fun b hb=>by
      have h:b<w.heap.size:=hb
      omega
     have hxm:=List.getElem_mem hlt
     have hcpx:=HIM.out _ hxm
     have hnvx:=HNM.out _ hxm
     have hC9:∀ W,Fr wr W→CqI W gM u.ms (SB WB.heap.size W) (Lo w.heap.size) i:=fun W hW=>(hcq.keep hW sb_lt hOb).more (fun b hb=>hb.keep hW id)
     obtain ⟨x,hxe⟩:∃ x,u.ms[i].2=x:=⟨_,rfl⟩
     rw [hxe] at hvc hin hcpx hnvx
     rw [hg] at hvc hx8 hC9 hgW ⊢
     obtain ⟨cur,hcur,_⟩:=hcq.blk
     rw [hg] at hcur
     have HS5:Hid (∀ W,Fr wr W→W.cell? ⟨X1,4,none⟩=some (.slice (some ⟨g,0,none⟩) u.ms.length c3)∧(W.cell? ⟨g,i*6+1,none⟩=some (.int .i64 x.kd)∧W.cell? ⟨g,i*6+1+1,none⟩=some (.int .i64 x.nm)∧W.cell? ⟨g,i*6+1+2,none⟩=some (.string ⟨x.tx.toArray⟩)∧W.cell? ⟨g,i*6+1+3,none⟩=some (.slice C x.ls.length f)∧W.cell? ⟨g,i*6+1+4,none⟩=some (.slice C' x.ms.length f'))):=Lib.hid (fun W hW=>by
      have a:=hx8.keep hW
      have hk:∀ o,W.cell? ⟨g,o,none⟩=wr.cell? ⟨g,o,none⟩:=fun o=>hW.cell hcur.lt
      exact ⟨a.cell 4,(hk _).trans hvc.1,(hk _).trans hvc.2.1,(hk _).trans hvc.2.2.1,(hk _).trans hvc.2.2.2.1,(hk _).trans hvc.2.2.2.2⟩)
     have HCP:Hid (∀ W,Fr wr W→Calls Tryz.prog 17 #[.agg #[.int .i64 x.kd,.int .i64 x.nm,.string ⟨x.tx.toArray⟩,.slice C x.ls.length f,.slice C' x.ms.length f']] W fun e w'=>(∃ (D:Option Addr) (d:Nat) (D':Option Addr) (d':Nat),e=.returned (.agg #[.int .i64 x.kd,.int .i64 x.nm,.string ⟨x.tx.toArray⟩,.slice D x.ls.length d,.slice D' x.ms.length d'])∧InV w' (SB W.heap.size w') x (vA x D d D' d'))∧Fr W w'):=Lib.hid (fun W hW=>hcpx (vA x C f C' f') W (hin.map (fun b hb=>Nat.lt_of_lt_of_le (hOb b hb) hW.size) (fun b o hb=>hW.cell (hOb b hb))) hnvx)
     have HC9:=Lib.hid hC9
     have HXE:=Lib.hid hxe
     clear hvc hin hcpx hnvx hcq hcur hx8 hxm hn00 hnl
     go_upto_region 10 with fail
     refine OrdL.begin (x:=12) (fun W=>W.cell? ⟨X1,4,none⟩=some (.slice (some ⟨g,0,none⟩) u.ms.length c3)∧(W.cell? ⟨g,i*6+1,none⟩=some (.int .i64 x.kd)∧W.cell? ⟨g,i*6+1+1,none⟩=some (.int .i64 x.nm)∧W.cell? ⟨g,i*6+1+2,none⟩=some (.string ⟨x.tx.toArray⟩)∧W.cell? ⟨g,i*6+1+3,none⟩=some (.slice C x.ls.length f)∧W.cell? ⟨g,i*6+1+4,none⟩=some (.slice C' x.ms.length f'))) (by kernel_rfl) ?_ (fun hH=>?_)
     ·exact HS5.out _ (Fr.refl _).drew
     refine lq 0 [1,10,11] rfl hH ?_
     try simp only [Act.put,fl]
     refine lq 1 [10,11] rfl hH ?_
     try simp only [Act.put,fl]
     refine lq 2 [10,11] rfl hH ?_
     try simp only [Act.put,fl]
     refine lq 3 [4,6,7,8,9] rfl hH ?_
     try simp only [Act.put,fl]
     refine lq 4 [6,7,8,9] rfl hH ?_
     try simp only [Act.put,fl]
     refine lq 5 [6,7,8,9] rfl hH ?_
     try simp only [Act.put,fl]
     refine lq 6 [7,8,9] rfl hH ?_
     try simp only [Act.put,fl]
     refine lq 7 [8,9] rfl hH ?_
     try simp only [Act.put,fl]
     refine lq 8 [9] rfl hH ?_
     try simp only [Act.put,fl]
     refine OrdL.one (i:=9) rfl (by kernel_rfl) (by rfl) (fun K hK=>?_)
     (go_simp;go_at_call 17;refine (HCP.out _ (Fr.refl wr).drew).mono ?_;rintro e w9 ⟨⟨D,d,D',d',rfl,hv9⟩,hf9⟩;have HV9:=Lib.hid hv9;have HF9:Hid (Fr wr w9):=Lib.hid ((Fr.refl wr).drew.trans hf9);clear hv9 hf9)
     refine hK.out _ _ (HS5.out _ HF9.out) (fun hH3=>?_)
     clear hK K
     try simp only [Act.put,fl]
     refine lq 10 [11] rfl hH3 ?_
     try simp only [Act.put,fl]
     refine lq 11 [] rfl hH3 ?_
     try simp only [Act.put,fl]
     obtain ⟨cur9,hk9,hz9⟩:=(hC9 _ HF9.out).blk
     have q0:∃ v,w9.cell? ⟨g,i*6+1,none⟩=some v:=⟨_,(hk9.cell _).trans (Array.getElem?_eq_getElem (by omega))⟩
     have q1:∃ v,w9.cell? ⟨g,i*6+1+1,none⟩=some v:=⟨_,(hk9.cell _).trans (Array.getElem?_eq_getElem (by omega))⟩
     have q2:∃ v,w9.cell? ⟨g,i*6+1+2,none⟩=some v:=⟨_,(hk9.cell _).trans (Array.getElem?_eq_getElem (by omega))⟩
     have q3:∃ v,w9.cell? ⟨g,i*6+1+3,none⟩=some v:=⟨_,(hk9.cell _).trans (Array.getElem?_eq_getElem (by omega))⟩
     have q4:∃ v,w9.cell? ⟨g,i*6+1+4,none⟩=some v:=⟨_,(hk9.cell _).trans (Array.getElem?_eq_getElem (by omega))⟩
     obtain ⟨m0,hm0⟩:=q0
     obtain ⟨m1,hm1⟩:=q1
     obtain ⟨m2,hm2⟩:=q2
     obtain ⟨m3,hm3⟩:=q3
     obtain ⟨m4,hm4⟩:=q4
     have hf0:=hk9.free (i*6+1)
     have hf1:=hk9.free (i*6+1+1)
     have hf2:=hk9.free (i*6+1+2)
     have hf3:=hk9.free (i*6+1+3)
     have hf4:=hk9.free (i*6+1+4)
     refine OrdL.last rfl (by kernel_rfl) (by kernel_rfl) (fun K hK=>?_)
     go_simp
     refine hK.out _ _ ?_
     clear hK K
     try simp only [Act.put,fl]
     have hd9:wr.drew.heap.size=wr.heap.size:=rfl
     have hb9:=HF9.out.size
     have hst:=(HC9.out _ HF9.out).step hlt (S:=SB WB.heap.size w9) (fun b hb e=>by have:=hb.1.1;omega) (fun b hb=>by
      have h:b<w.heap.size:=hb
      omega) (C:=D) (f:=d) (C':=D') (f':=d') (by
      rw [HXE.out]
      exact HV9.out.more (fun b hb=>⟨⟨by have:=hb.1.1;omega,hb.1.2⟩,hb.2⟩))
     rw [HXE.out] at hst
     have hfr:=st5g_frx w9 g (i*6+1) (.int .i64 x.kd) (.int .i64 x.nm) (.string ⟨x.tx.toArray⟩) (.slice D x.ls.length d) (.slice D' x.ms.length d')
     have hsz9:=st5g_size w9 g (i*6+1) (.int .i64 x.kd) (.int .i64 x.nm) (.string ⟨x.tx.toArray⟩) (.slice D x.ls.length d) (.slice D' x.ms.length d')
     rw [hg] at hX
     go_wp2_with fail
     subst hg
     exact ⟨⟨i+1,by omega,by go_num,Lib.hid (FrX.trans (hX.out.fr HF9.out) hfr),Lib.hid (fun _=>hst.more (fun b hb=>hb.frx hfr (by have:=hb.1.1;omega) id))⟩,by simp [intOf];omega⟩
    ·obtain rfl:i=u.ms.length:=by omega
     have hy8:=HY7.out.frx hX.out (show X2≠gM by omega)
     have hls8:LsC wr (SB W1.heap.size wr) A2 u.ls:=hls6.out.map (fun b hb=>⟨⟨(hS1 b hb).1,by have:=(hS1 b hb).2.1;omega⟩,by obtain ⟨cur,T,hcur⟩:=hSf b hb;exact ⟨cur,T,hcur.frx hX.out (fun e=>by have:=(hS1 b hb).2;omega)⟩⟩) (fun b o hb=>hX.out.cell (hS1 b hb).2.1 (fun e=>by have:=(hS1 b hb).2;omega))
     have hms8:MsC wr (SB W1.heap.size wr) A3 u.ms:=by
      by_cases h0:0<u.ms.length
      ·obtain ⟨hA3,hgW,_⟩:=hgM.out h0
       rw [hA3]
       obtain ⟨curM,hcurM,_⟩:=(hC.out h0).blk
       exact (hC.out h0).msC ⟨⟨by omega,by omega⟩,curM,_,hcurM⟩ (fun b hb=>⟨⟨by have:=hb.1.1;omega,hb.1.2⟩,hb.2⟩)
      ·exact fun i hi=>absurd hi (by omega)
     have hcq8:0<u.ms.length → ∃ g,A3=some ⟨g,0,none⟩∧w.heap.size≤g∧g≠X2∧CqI wr g u.ms (fun b=>(SB w.heap.size wr b∧b≠g)∧b≠X2) (Lo w.heap.size) u.ms.length:=fun h0=>by
      obtain ⟨hA3,hgW,_⟩:=hgM.out h0
      exact ⟨gM,hA3,by omega,by omega,(hC.out h0).more (fun b hb=>⟨⟨⟨⟨by have:=hb.1.1;omega,hb.1.2⟩,hb.2⟩,by have:=hb.1.1;omega⟩,by have:=hb.1.1;omega⟩)⟩
     have HCQ8:=Lib.hid hcq8
     clear hcq8
     obtain ⟨⟨n1,n2⟩,⟨k1,k2⟩,t1⟩:=HFA.out
     have hin8:=InV.both (c:=c2) (c':=c3) hls8 hms8 (by omega) (by omega) u.kd u.nm u.tx n1 n2 k1 k2 t1
     rw [show JV.mk u.kd u.nm u.tx u.ls u.ms=u from by cases u;rfl] at hin8
     have hf8:Fr w wr:=Fr.thenY HF7.out (show w.heap.size≤gM by omega) hgM1.2 hX.out
     obtain ⟨⟨y0,y1,y2,y3,y4⟩,_⟩:=box5 hx8
     obtain ⟨⟨z0,z1,z2,z3,z4⟩,zf0,zf1,zf2,zf3,zf4⟩:=box5 hy8
     have HY8:=Lib.hid hy8
     have HIN8:=Lib.hid hin8
     have HF8:=Lib.hid hf8
     clear hy8 hin8 hf8 hls8 hms8 hx8 n1 n2 k1 k2 t1 hlt hi
     go_wp2_with fail
     refine bodyPost_ret (results_cv (by rfl) rfl _ X2 (by rfl) _ _ _ _ _ (set5 HY8.out)) rfl ?_
     refine ⟨⟨A2,c2,A3,c3,rfl,?_,fun h0=>?_⟩,HF8.out.put5 (X:=X2) (by omega) _ _ _ _ _⟩
     rotate_left
     ·obtain ⟨g,hA3,hg1,hg2,hq⟩:=HCQ8.out h0
      have hfx:=(((((FrX.refl X2 wr).setCell (p:=⟨X2,0,none⟩) rfl (.int .i64 u.kd)).setCell (p:=⟨X2,1,none⟩) rfl (.int .i64 u.nm)).setCell (p:=⟨X2,2,none⟩) rfl (.string ⟨u.tx.toArray⟩)).setCell (p:=⟨X2,3,none⟩) rfl (.slice A2 u.ls.length c2)).setCell (p:=⟨X2,4,none⟩) rfl (.slice A3 u.ms.length c3)
      have hq2:=hq.frx hfx hg2 (fun b hb=>hb.1.1.1.2) (fun b hb=>by have h:b<w.heap.size:=hb;have:=HF8.out.size;omega) (fun b hb=>hb.2) (fun b hb e=>by have h:b<w.heap.size:=hb;omega)
      exact ⟨g,hA3,hg1,hq2.more (fun b hb=>⟨hb.1.1.frx hfx hb.2 id,hb.1.2⟩)⟩
     refine HIN8.out.map (fun b hb=>hb.frx ((((((FrX.refl X2 wr).setCell (p:=⟨X2,0,none⟩) rfl (.int .i64 u.kd)).setCell (p:=⟨X2,1,none⟩) rfl (.int .i64 u.nm)).setCell (p:=⟨X2,2,none⟩) rfl (.string ⟨u.tx.toArray⟩)).setCell (p:=⟨X2,3,none⟩) rfl (.slice A2 u.ls.length c2)).setCell (p:=⟨X2,4,none⟩) rfl (.slice A3 u.ms.length c3)) (by have:=hb.1.1;omega) (fun _=>by have:=hb.1.1;omega)) (fun b o hb=>?_)
     have hne:b≠X2:=by have:=hb.1.1;omega
     unfold World.cell?
     rw [Below.heap_setCell _ _ _ _ hne,Below.heap_setCell _ _ _ _ hne,Below.heap_setCell _ _ _ _ hne,Below.heap_setCell _ _ _ _ hne,Below.heap_setCell _ _ _ _ hne]
theorem copyS_is (u:JV):CpAtS u:=by
 refine JV.ind (P:=CpAtS) (fun k n s l m h1 h2=>(copyS_step (.mk k n s l m) h1 h2).weak) u
theorem copyqS_is (u:JV):CpQS u:=copyS_step u (fun x _=>copyS_is x) (fun p _=>copyS_is p.2)
end Go.Proofs.YtlmcfhokfiibkaaGreatDoor
