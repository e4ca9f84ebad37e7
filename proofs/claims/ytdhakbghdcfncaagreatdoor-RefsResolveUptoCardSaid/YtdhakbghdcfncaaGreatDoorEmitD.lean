/- The walks of the checker. -/
import Derived.Test.YtdhakbghdcfncaaGreatDoorEb
import Derived.Test.YtdhakbghdcfncaaGreatDoorKa
import Derived.Test.YtdhakbghdcfncaaGreatDoorPa
namespace Go.Proofs.YtdhakbghdcfncaaGreatDoor
set_option maxRecDepth 100000
set_option maxHeartbeats 4000000
set_option linter.unusedVariables false
set_option linter.unusedSimpArgs false
open Go.RowKit

def ChkAt (v:JV) (x:Value) (C d p:Nat) (w:World):Prop:=
 ∀ c q,JV.chk v d p=(c,q)→Calls Tryz.prog 39 #[.pointer (some ⟨C,0,none⟩),x,.int .i64 (d:Nat)] w fun e w'=>e=.returned (.int .i64 (c:Nat))∧FrX C w w'∧(c=0→Cnt w' C q)

theorem check_out (k n:Int) (s:List UInt8) (l:List JV) (m:List (List UInt8 × JV)) (A:Option Addr) (c0:Nat) (A':Option Addr) (c0':Nat) (C d p:Nat) (w:World)
  (hv:InV w (Lo C) (.mk k n s l m) (vA (.mk k n s l m) A c0 A' c0')) (hc:Cnt w C p) (hp:p≤8192) (hd:d≤17)
  (ho:16<d∨8192≤p∨JV.rightB (.mk k n s l m)=false):ChkAt (.mk k n s l m) (vA (.mk k n s l m) A c0 A' c0') C d p w:=by
 intro c q hch
 rw [JV.chk_mk] at hch
 obtain ⟨hlt,hcc,hcf⟩:=hc
 have HV:=Lib.hid hv
 clear hv
 show Calls Tryz.prog _ #[_,.agg #[.int .i64 k,.int .i64 n,.string ⟨s.toArray⟩,.slice A l.length c0,.slice A' m.length c0'],_] _ _
 by_cases h1:16<d
 ·have d1:decide ((16:Int)<(d:Int))=true:=decide_eq_true (by omega)
  rw [if_pos h1,Prod.mk.injEq] at hch
  obtain ⟨rfl,rfl⟩:=hch
  clear ho hcc hcf
  go_enter Tryz.func39,Tryz.ntmps39
  go_wp2_with fail
  go_ret
  exact ⟨rfl,(FrX.refl _ _).alloc _,fun h=>by cases h⟩
 have d1:decide ((16:Int)<(d:Int))=false:=decide_eq_false (by omega)
 rw [if_neg h1] at hch
 by_cases h2:8192≤p
 ·obtain rfl:p=8192:=by omega
  rw [if_pos h2,Prod.mk.injEq] at hch
  obtain ⟨rfl,rfl⟩:=hch
  clear ho
  go_enter Tryz.func39,Tryz.ntmps39
  go_wp2_with fail
  go_ret
  exact ⟨rfl,((FrX.refl _ _).setCell rfl _).alloc _,fun h=>by cases h⟩
 have hr:JV.rightB (.mk k n s l m)=false:=by
  rcases ho with h | h | h
  ·omega
  ·omega
  ·exact h
 rw [if_neg h2,if_pos hr,Prod.mk.injEq] at hch
 obtain ⟨rfl,rfl⟩:=hch
 have HR:=Lib.hid hr
 have HVR:∀ ob val,Hid (InV ((w.setCell ⟨C,0,none⟩ val).alloc ob) (Lo ((w.setCell ⟨C,0,none⟩ val).alloc ob).heap.size) (.mk k n s l m) (vA (.mk k n s l m) A c0 A' c0')):=fun ob val=>
  (HV.out.frx (Nat.le_of_lt hlt) (((FrX.refl C w).setCell rfl val).alloc ob)).lo (by simp [World.setCell];omega)
 have d2:decide ((8192:Int)<(p:Int)+1)=false:=decide_eq_false (by omega)
 have hp2:(p:Int)≤8191:=by omega
 clear ho hr
 go_enter Tryz.func39,Tryz.ntmps39
 go_wp2_with (go_at_call 65;refine (right_at (.mk k n s l m) A c0 A' c0' _ false (HVR _ _).out HR.out).mono ?_;rintro e w1 ⟨rfl,hw1⟩;have HW1:=Lib.hid hw1;clear hw1)
 go_ret
 exact ⟨rfl,(((FrX.refl _ _).setCell rfl _).alloc _).fr HW1.out,fun h=>by cases h⟩

def ChI (w wr:World) (C X:Nat) (c0':Nat) (A':Option Addr) (ml:Nat) (r0 r1:Nat × Nat) (q:Nat):Prop:=
 Cnt wr C q∧q≤8192∧r0=r1∧FrX C w wr∧X<wr.heap.size∧wr.cell? ⟨X,4,none⟩=some (.slice A' ml c0')
theorem ChI.step {w wr w2:World} {C X c0':Nat} {A':Option Addr} {ml:Nat} {r0 r1 r2:Nat × Nat} {q q2:Nat} (h:ChI w wr C X c0' A' ml r0 r1 q) (hX:C<X) (hc:Cnt w2 C q2) (hq:q2≤8192) (hr:r0=r2) (hf:FrX C wr w2):
  ChI w w2 C X c0' A' ml r0 r2 q2:=⟨hc,hq,hr,h.2.2.2.1.trans hf,Nat.lt_of_lt_of_le h.2.2.2.2.1 hf.size,by rw [hf.cell h.2.2.2.2.1 (by omega)];exact h.2.2.2.2.2⟩
theorem ChkAt.call {v:JV} {x x':Value} {C d p:Nat} {w:World} (h:ChkAt v x C d p w) {c q:Nat} {z:Int} (hx:x'=x) (hz:z=((d:Nat):Int)) (hc:JV.chk v d p=(c,q)):
  Calls Tryz.prog 39 #[.pointer (some ⟨C,0,none⟩),x',.int .i64 z] w fun e w'=>e=.returned (.int .i64 (c:Nat))∧FrX C w w'∧(c=0→Cnt w' C q):=by
 subst hx;subst hz;exact h c q hc
theorem Cnt.alloc {w:World} {C p:Nat} (h:Cnt w C p) (o:Obj):Cnt (w.alloc o) C p:=h.keep ((Fr.refl w).alloc o)
theorem chkL_at {l:List JV} {i d q:Nat} (h:i<l.length):JV.chkL (l.drop i) d q=if (JV.chk l[i] d q).1≠0 then JV.chk l[i] d q else JV.chkL (l.drop (i+1)) d (JV.chk l[i] d q).2:=by
 rw [List.drop_eq_getElem_cons h,JV.chkL_cons]
theorem chkM_at {l:List (List UInt8 × JV)} {i d q:Nat} (h:i<l.length):JV.chkM (l.drop i) d q=if (JV.chk l[i].2 d q).1≠0 then JV.chk l[i].2 d q else JV.chkM (l.drop (i+1)) d (JV.chk l[i].2 d q).2:=by
 rw [List.drop_eq_getElem_cons h,JV.chkM_cons]
theorem chk_le {v:JV} {d p c q:Nat} (h:JV.chk v d p=(c,q)) (h0:c=0):q≤8192:=by
 have:=(JV.chk_ok v d p (by rw [h];exact h0)).2.2
 rw [h] at this;exact this

theorem check_is (v:JV):∀ (x:Value) (C d p:Nat) (w:World),InV w (Lo C) v x→Cnt w C p→p≤8192→d≤17→ChkAt v x C d p w:=by
 induction v using JV.ind with
 | h k n s l m ihl ihm=>
  intro x C d p w hv hc hp hd
  obtain ⟨A,c0,A',c0',rfl,hls,hms⟩:=hv.open_
  by_cases ho:16<d∨8192≤p∨JV.rightB (.mk k n s l m)=false
  ·exact check_out k n s l m A c0 A' c0' C d p w hv hc hp hd ho
  intro c q hch
  rw [JV.chk_mk,if_neg (by omega),if_neg (by omega),if_neg (fun h=>ho (.inr (.inr h)))] at hch
  obtain ⟨hlt,hcc,hcf⟩:=hc
  obtain ⟨_,_,_,hl63,hm63⟩:=hv.facts
  have hl63:l.length≤140737488355328:=hl63
  have hm63:m.length≤140737488355328:=hm63
  have HV:=Lib.hid hv
  clear hv
  show Calls Tryz.prog _ #[_,.agg #[.int .i64 k,.int .i64 n,.string ⟨s.toArray⟩,.slice A l.length c0,.slice A' m.length c0'],_] _ _
  have d1:decide ((16:Int)<(d:Int))=false:=decide_eq_false (by omega)
  have hr:JV.rightB (.mk k n s l m)=true:=by
   cases h:JV.rightB (.mk k n s l m) with
   | true=>rfl
   | false=>exact absurd (.inr (.inr h)) ho
  have HR:=Lib.hid hr
  have HVR:∀ ob val,Hid (InV ((w.setCell ⟨C,0,none⟩ val).alloc ob) (Lo ((w.setCell ⟨C,0,none⟩ val).alloc ob).heap.size) (.mk k n s l m) (vA (.mk k n s l m) A c0 A' c0')):=fun ob val=>
   (HV.out.frx (Nat.le_of_lt hlt) (((FrX.refl C w).setCell rfl val).alloc ob)).lo (by simp [World.setCell];omega)
  have d2:decide ((8192:Int)<(p:Int)+1)=false:=decide_eq_false (by omega)
  have hp2:(p:Int)≤8191:=by omega
  have hd2:(d:Int)≤16:=by omega
  have HCH:=Lib.hid hch
  have HLS:=Lib.hid hls
  have HMS:=Lib.hid hms
  have HCL:Hid (C≤w.heap.size):=Nat.le_of_lt hlt
  have hl63':(l.length:Int)≤140737488355328:=by omega
  have hm63':(m.length:Int)≤140737488355328:=by omega
  obtain ⟨L,hL⟩:∃ L,l.length=L:=⟨_,rfl⟩
  obtain ⟨M,hM⟩:∃ M,m.length=M:=⟨_,rfl⟩
  rw [hL] at hl63'
  rw [hM] at hm63'
  have HL:=Lib.hid hL
  have HM:=Lib.hid hM
  have HV2:Hid (∀ l' m',l'=l.length→m'=m.length→vA (.mk k n s l m) A c0 A' c0'=.agg #[.int .i64 k,.int .i64 n,.string ⟨s.toArray⟩,.slice A l' c0,.slice A' m' c0']):=by
   rintro l' m' rfl rfl;rfl
  rw [hL,hM]
  clear ho hr hch hls hms hl63 hm63 hL hM
  go_enter Tryz.func39,Tryz.ntmps39
  have HIHL:=Lib.hid ihl
  have HIHM:=Lib.hid ihm
  clear ihl ihm
  go_wp2_with (go_at_call 65;rw [← HV2.out L M HL.out.symm HM.out.symm];refine (right_at (.mk k n s l m) A c0 A' c0' _ true (HVR _ _).out HR.out).mono ?_;rintro e w1 ⟨rfl,hw1⟩;have hb3:w1.cell? ⟨w.heap.size,3,none⟩=some (.slice A L c0):=(by rw [hw1.cell (by simp [World.setCell]),World.cell?_alloc_at _ _ _ _ (by simp [World.setCell])];rfl);have HW1:=Lib.hid hw1;clear hw1)
  have HI0:Hid (ChI w w1 C w.heap.size c0' A' M (JV.chkL l (d+1) (p+1)) (JV.chkL l (d+1) (p+1)) (p+1)):=by
   have hz:=HW1.out.size
   simp [World.setCell] at hz
   refine ⟨⟨by omega,?_,?_⟩,by omega,rfl,(((FrX.refl C w).setCell rfl _).alloc _).fr HW1.out,by omega,?_⟩
   ·rw [HW1.out.cell (by simp [World.setCell];omega),World.cell?_alloc_lt _ _ _ (by simpa [World.setCell] using hlt),World.cell?_setCell_same _ _ _ hcc]
    rfl
   ·rw [HW1.out.frozen (by simp [World.setCell];omega),World.frozen?_alloc_old _ _ _ (by simp [World.setCell];omega),World.frozen?_setCell]
    exact hcf
   ·rw [HW1.out.cell (by simp [World.setCell]),World.cell?_alloc_at _ _ _ _ (by simp [World.setCell])]
    rfl
  clear hcc hcf HVR hb3
  go_loopw [33] (fun j wr=>∃ i:Nat,i≤L∧j=.int .i64 i∧Hid (∃ q1,ChI w wr C w.heap.size c0' A' M (JV.chkL l (d+1) (p+1)) (JV.chkL (l.drop i) (d+1) q1) q1)) (fun j _=>L - (intOf j).toNat)
  case atStart=>exact ⟨0,by omega,rfl,Lib.hid ⟨_,HI0.out⟩⟩
  case round=>
   obtain ⟨i,hi,rfl,hI⟩:=hrel
   obtain ⟨q1,hI1⟩:=hI.out
   have hcn:=hI1.1
   have hq1:=hI1.2.1
   have hfx:=hI1.2.2.2.1
   have hX4:=hI1.2.2.2.2.2
   by_cases h:i<L
   ·have hil:i<l.length:=by have:=HL.out;omega
    obtain ⟨b,o,B,dd,B',dd',rfl,hb,⟨e1,e2,e3,e4,e5⟩,hiv⟩:=(show LsC wr (Lo C) A l from HLS.out.frx HCL.out hfx) i hil
    have hcl:=chkL_at (d:=d+1) (q:=q1) hil
    have hih:=HIHL.out l[i] (List.getElem_mem hil)
    obtain ⟨u,hu⟩:∃ u,l[i]=u:=⟨_,rfl⟩
    rw [hu] at e1 e2 e3 e4 e5 hiv hcl hih
    clear hu
    have HCW:Hid (C≤wr.heap.size):=by have:=hcn.1;show _≤_;omega
    have HVU:∀ ob,Hid (InV (wr.alloc ob) (Lo C) u (vA u B dd B' dd')):=fun ob=>hiv.frx HCW.out ((FrX.refl C wr).alloc ob)
    have HCN:∀ ob,Hid (Cnt (wr.alloc ob) C q1):=fun ob=>hcn.alloc ob
    have HIH:=Lib.hid hih
    have HI1:=Lib.hid hI1
    rcases hck:JV.chk u (d+1) q1 with ⟨cc,q2⟩
    rw [hck] at hcl
    have HCK:=Lib.hid hck
    have HCLL:=Lib.hid hcl
    have h':(i:Int)<(L:Int):=by omega
    clear hck hcl hih hiv hcn hfx hI1
    by_cases h0:cc=0
    ·subst h0
     go_wp2_with (go_at_call 39;refine ((HIH.out _ C (d+1) q1 _ (HVU _).out (HCN _).out hq1 (by omega)).call rfl (by omega) HCK.out).mono ?_;rintro e w2 ⟨rfl,hfx,hcn⟩;have HFX:=Lib.hid hfx;have HCN2:=Lib.hid (hcn rfl);clear hfx hcn)
     refine ⟨⟨i+1,by omega,by go_num,Lib.hid ⟨q2,HI1.out.step hlt HCN2.out (chk_le HCK.out rfl) ?_ (((FrX.refl C wr).alloc _).trans HFX.out)⟩⟩,by simp [intOf];omega⟩
     rw [HI1.out.2.2.1,HCLL.out];simp
    ·have hne:((cc:Int) != 0)=true:=by rw [bne_iff_ne];omega
     have HR2:Hid (JV.chkL l (d+1) (p+1)=(cc,q2)):=by show _=_;rw [HI1.out.2.2.1,HCLL.out,if_pos h0]
     have HCC:Hid (cc=c):=by have:=HCH.out;rw [HR2.out,if_pos h0] at this;exact (Prod.mk.inj this).1
     go_wp2_with (go_at_call 39;refine ((HIH.out _ C (d+1) q1 _ (HVU _).out (HCN _).out hq1 (by omega)).call rfl (by omega) HCK.out).mono ?_;rintro e w2 ⟨rfl,hfx,hcn⟩;have HFX:=Lib.hid hfx;clear hfx hcn)
     go_ret
     exact ⟨by rw [HCC.out];rfl,HI1.out.2.2.2.1.trans (((FrX.refl C wr).alloc _).trans HFX.out),fun h=>absurd (HCC.out.trans h) h0⟩
   ·obtain rfl:i=L:=by omega
    have HQ:Hid (JV.chkL l (d+1) (p+1)=(0,q1)):=by
     show _=_
     rw [hI1.2.2.1,← HL.out,List.drop_length,JV.chkL_nil]
    have HCH2:Hid (JV.chkM m (d+1) q1=(c,q)):=by
     show _=_
     show _=_
     have:=HCH.out
     rw [HQ.out] at this
     simpa using this
    have HI1:=Lib.hid hI1
    clear hcn hfx hI1
    go_wp2_with fail
    go_loopw [49] (fun j wr=>∃ i:Nat,i≤M∧j=.int .i64 i∧Hid (∃ q1,ChI w wr C w.heap.size c0' A' M (c,q) (JV.chkM (m.drop i) (d+1) q1) q1)) (fun j _=>M - (intOf j).toNat)
    case atStart=>exact ⟨0,by omega,rfl,Lib.hid ⟨q1,HI1.out.1,HI1.out.2.1,HCH2.out.symm,HI1.out.2.2.2⟩⟩
    case round=>
     obtain ⟨i,hi,rfl,hI⟩:=hrel
     obtain ⟨q1,hI1⟩:=hI.out
     have hcn:=hI1.1
     have hq1:=hI1.2.1
     have hfx:=hI1.2.2.2.1
     by_cases h:i<M
     ·have hil:i<m.length:=by have:=HM.out;omega
      obtain ⟨b,o,B,dd,B',dd',rfl,hb,hnl,e0,⟨e1,e2,e3,e4,e5⟩,hiv⟩:=(show MsC wr (Lo C) A' m from HMS.out.frx HCL.out hfx) i hil
      have hcl:=chkM_at (d:=d+1) (q:=q1) hil
      have hih:=HIHM.out m[i] (List.getElem_mem hil)
      obtain ⟨u,hu⟩:∃ u,m[i]=u:=⟨_,rfl⟩
      rw [hu] at e0 e1 e2 e3 e4 e5 hiv hcl hih hnl
      obtain ⟨nm,u⟩:=u
      simp only at e0 e1 e2 e3 e4 e5 hiv hcl hih hnl
      clear hu
      have HCW:Hid (C≤wr.heap.size):=by have:=hcn.1;show _≤_;omega
      have HVU:∀ ob,Hid (InV (wr.alloc ob) (Lo C) u (vA u B dd B' dd')):=fun ob=>hiv.frx HCW.out ((FrX.refl C wr).alloc ob)
      have HCN:∀ ob,Hid (Cnt (wr.alloc ob) C q1):=fun ob=>hcn.alloc ob
      have HIH:=Lib.hid hih
      have HI1:=Lib.hid hI1
      rcases hck:JV.chk u (d+1) q1 with ⟨cc,q2⟩
      rw [hck] at hcl
      have HCK:=Lib.hid hck
      have HCLL:=Lib.hid hcl
      have h':(i:Int)<(M:Int):=by omega
      clear hck hcl hih hiv hcn hfx hI1
      by_cases h0:cc=0
      ·subst h0
       go_wp2_with (go_at_call 39;refine ((HIH.out _ C (d+1) q1 _ (HVU _).out (HCN _).out hq1 (by omega)).call rfl (by omega) HCK.out).mono ?_;rintro e w2 ⟨rfl,hfx,hcn⟩;have HFX:=Lib.hid hfx;have HCN2:=Lib.hid (hcn rfl);clear hfx hcn)
       refine ⟨⟨i+1,by omega,by go_num,Lib.hid ⟨q2,HI1.out.step hlt HCN2.out (chk_le HCK.out rfl) ?_ (((FrX.refl C wr).alloc _).trans HFX.out)⟩⟩,by simp [intOf];omega⟩
       rw [HI1.out.2.2.1,HCLL.out];simp
      ·have hne:((cc:Int) != 0)=true:=by rw [bne_iff_ne];omega
       have HCC:Hid (cc=c):=by have:=HI1.out.2.2.1;rw [HCLL.out,if_pos h0] at this;exact (Prod.mk.inj this).1.symm
       go_wp2_with (go_at_call 39;refine ((HIH.out _ C (d+1) q1 _ (HVU _).out (HCN _).out hq1 (by omega)).call rfl (by omega) HCK.out).mono ?_;rintro e w2 ⟨rfl,hfx,hcn⟩;have HFX:=Lib.hid hfx;clear hfx hcn)
       go_ret
       exact ⟨by rw [HCC.out];rfl,HI1.out.2.2.2.1.trans (((FrX.refl C wr).alloc _).trans HFX.out),fun h=>absurd (HCC.out.trans h) h0⟩
     ·obtain rfl:i=M:=by omega
      have HE:Hid ((c,q)=(0,q1)):=by
       show _=_
       rw [hI1.2.2.1,← HM.out,List.drop_length,JV.chkM_nil]
      obtain ⟨rfl,rfl⟩:=Prod.mk.inj HE.out
      have HI1:=Lib.hid hI1
      clear hcn hfx hI1
      go_wp2_with fail
      go_ret
      exact ⟨rfl,HI1.out.2.2.2.1,HI1.out.1⟩
end Go.Proofs.YtdhakbghdcfncaaGreatDoor
