/- Chapter 25, plain: what a request is, and when it is none. -/
import Derived.Test.YtockgemmkjdnkaaGreatDoorEvf
import Derived.Test.YtockgemmkjdnkaaGreatDoorIdt
import Derived.Test.YtockgemmkjdnkaaGreatDoorTra
set_option maxRecDepth 100000
set_option maxHeartbeats 2000000
set_option linter.unusedVariables false
set_option linter.unusedSimpArgs false
namespace Go.Proofs.YtockgemmkjdnkaaGreatDoor
open Go.RowKit

theorem Fr.thenX {w W W':World} {R:Nat} (h:Fr w W) (hR:w.heap.size<=R) (hR2:R<=W.heap.size) (hx:FrX R W W'):Fr w W':=Below.trans h ((hx.below hR2).mono hR)
namespace Pt
abbrev ReqV:=(List (List UInt8) × List CallV) × (List (List UInt8 × JV) × Bool)
def getZ (v:JV) (s:List UInt8):JV:=(get v s).getD JV.zeroV
def nUsing:List UInt8:=[117,115,105,110,103]
def nCalls:List UInt8:=[109,101,116,104,111,100,67,97,108,108,115]
def nIds:List UInt8:=[99,114,101,97,116,101,100,73,100,115]
def badM (p:List UInt8 × JV):Bool:=p.2.kd != 4 || !Idn.isId p.2.tx
def okU (v:JV):Bool:=allT (getZ v nUsing).ls && ((getZ v nUsing).kd == 5)
def okC (v:JV):Bool:=allC (getZ v nCalls).ls && ((getZ v nCalls).kd == 5)
def okM1 (x:JV):Bool:=x.kd == 6 && (decide (x.ms.length<=256) && !(x.ms.any badM))
def okM (v:JV):Bool:=match get v nIds with
 | none=>true
 | some x=>okM1 x
def reqOf (v:JV):ReqV:=(((getZ v nUsing).ls.map JV.tx,(getZ v nCalls).ls.map callC),((getZ v nIds).ms,(get v nIds).isSome))
inductive Pa where
 | bad (K L:List UInt8)
 | ok (r:ReqV)
def kReq:List UInt8:=[110,111,116,82,101,113,117,101,115,116]
def kCap:List UInt8:=[117,110,107,110,111,119,110,67,97,112,97,98,105,108,105,116,121]
def kLim:List UInt8:=[108,105,109,105,116]
def kCalls:List UInt8:=[109,97,120,67,97,108,108,115,73,110,82,101,113,117,101,115,116]
def kSize:List UInt8:=[109,97,120,83,105,122,101,82,101,113,117,101,115,116]
def kJson:List UInt8:=[110,111,116,74,83,79,78]
def fine (v:JV):Bool:=v.kd == 6 && (okU v && (okC v && okM v))
def parseV (v:JV):Pa:=
 if fine v=false then .bad kReq []
 else if odd ((getZ v nUsing).ls.map JV.tx)=true then .bad kCap []
 else if 16<(getZ v nCalls).ls.length then .bad kLim kCalls
 else .ok (reqOf v)
def parse (s:List UInt8):Pa:=
 if 65536<s.length then .bad kLim kSize
 else match Rd.rdS s with
  | .ok v _ _=>parseV v
  | _=>.bad kJson []
theorem getZ_of {v y:JV} {s:List UInt8} (h:get v s=some y):getZ v s=y:=by unfold getZ;rw [h];rfl
theorem getZ_no {v:JV} {s:List UInt8} (h:get v s=none):getZ v s=JV.zeroV:=by unfold getZ;rw [h];rfl
theorem getZ_nv (v:JV) (s:List UInt8):Rd.nv (getZ v s)<=Rd.nv v\/getZ v s=JV.zeroV:=by
 cases h:get v s with
 | none=>exact .inr (getZ_no h)
 | some y=>
  rw [getZ_of h];unfold get at h;split at h
  ·have:=nvM_mem (getM_mem h);have h4:=nv_eq v;simp only at this;exact .inl (by omega)
  ·cases h
end Pt
/- Chapter 25: Request.created. -/

theorem badm_is (nm:List UInt8) (u:JV) (C:Option Addr) (f:Nat) (C':Option Addr) (f':Nat) (w:World) (hs:u.tx.length<=140737488355328) (b:Bool) (hb:Pt.badM (nm,u)=b):
  Calls Tryz.prog 49 #[.agg #[.string ⟨nm.toArray⟩,.int .i64 u.kd,.int .i64 u.nm,.string ⟨u.tx.toArray⟩,.slice C u.ls.length f,.slice C' u.ms.length f']] w λe w'=>e=.returned (.bool b)/\Fr w w':=by
 by_cases h4:u.kd=4
 ·have q4:(u.kd != 4)=false:=by rw [bne_eq_false_iff_eq];exact h4
  obtain ⟨c,hc⟩:∃ c,Idn.isId u.tx=c:=⟨_,rfl⟩;have HC:Hid (∀ W,Calls Tryz.prog 50 #[.string ⟨u.tx.toArray⟩] W λe w'=>e=.returned (.bool c)/\W=w'):=LH (λW=>by
   have:=is_id_any ⟨u.tx.toArray⟩ W (by unfold maxLen;simp [ByteArray.size];omega);rw [<- hc];exact this)
  have HB:Hid ((!c)=b):=LH (by rw [<- hb,<- hc];unfold Pt.badM;simp only;rw [q4];rfl);clear h4 hc hb hs;go_enter Tryz.func49,Tryz.ntmps49
  go_wp2_with (go_at_call 50;refine (HC.out _).mono ?_;rintro e w1 ⟨rfl,rfl⟩)
  go_ret
  exact ⟨by rw [<- HB.out];rfl,(FR w).alloc _⟩
 ·have q4:(u.kd != 4)=true:=(ikind h4).2;have HB:Hid (true=b):=LH (by rw [<- hb];unfold Pt.badM;simp only;rw [q4];rfl);clear h4 hb hs;go_enter Tryz.func49,Tryz.ntmps49
  go_wp2_with fail
  go_ret
  exact ⟨by rw [<- HB.out];rfl,(FR w).alloc _⟩

theorem Pt.nvM_len:∀ m:List (List UInt8 × JV),m.length<=Rd.nvM m
 | []=>by simp
 | p::m=>by rw [Rd.nvM_cons,List.length_cons];have:=Pt.nvM_len m;have:=Rd.nv_pos p.2;omega
theorem Pt.oddM_take {l:List (List UInt8 × JV)} {i:Nat} (hi:i<l.length):(l.take (i+1)).any Pt.badM=((l.take i).any Pt.badM || Pt.badM l[i]):=by
 rw [List.take_succ_eq_append_getElem hi,List.any_append];simp
theorem Pt.oddM_at {l:List (List UInt8 × JV)} {i:Nat} (hi:i<l.length) (h:Pt.badM l[i]=true):l.any Pt.badM=true:=by
 rw [List.any_eq_true];exact ⟨l[i],List.getElem_mem hi,h⟩
theorem idxbad_is (l:List (List UInt8 × JV)) (A:Option Addr) (c:Nat) (w:World) (Z:Nat) (hZ:Z<=w.heap.size) (h:MsC w (Lo Z) A l) (hl:l.length<=140737488355328):
  Calls Tryz.prog 68 #[.slice A l.length c,(Value.func (.func 49) #[] #[])] w λe w'=>(∃ z:Int,e=.returned (.int .i64 z)/\((l.any Pt.badM=true/\0<=z)\/(l.any Pt.badM=false/\z = -1)))/\Fr w w':=by
 have HP:=LH h;have hl':(l.length:Int)<=140737488355328:=by omega
 clear h;go_enter Tryz.func68,Tryz.ntmps68
 go_wp2_with fail
 go_loopw [8] (λj wr=>∃ (i:Nat),i<=l.length/\j=.int .i64 i/\Hid ((l.take i).any Pt.badM=false)/\Hid (Fr w wr)) (λj _=>l.length - (intOf j).toNat)
 case atStart=>exact ⟨0,by omega,rfl,LH rfl,LH (FR w)⟩
 case round=>
  obtain ⟨i,hi,rfl,hO,hF⟩:=hrel;by_cases hlt:i<l.length
  ·have hlt':(i:Int)<(l.length:Int):=by omega
   obtain ⟨b,o,C,e,C',e',rfl,hb,hnl,c0,⟨c1,c2,c3,c4,c5⟩,hu⟩:=(HP.out.keep hZ hF.out) i hlt;have htx:=hu.facts;obtain ⟨q,hq⟩:∃ q,l[i].1=q:=⟨_,rfl⟩;obtain ⟨u,hxu⟩:∃ u,l[i].2=u:=⟨_,rfl⟩;have hqu:l[i]=(q,u):=by rw [<- hq,<- hxu]
   rw [hq] at c0;rw [hxu] at c1 c2 c3 c4 c5 htx;obtain ⟨cb,hcb⟩:∃ cb,Pt.badM (q,u)=cb:=⟨_,rfl⟩;have HCB:=LH hcb;have HQ:=LH hqu;have HTX:Hid (u.tx.length<=140737488355328):=LH htx.2.2.1;clear hb hcb hq hqu hxu hu hnl htx
   cases cb
   ·go_wp2_with (go_at_call 49;refine (badm_is _ _ _ _ _ _ _ HTX.out _ HCB.out).mono ?_;rintro e w1 ⟨rfl,hf⟩;have HF1:=LH (hF.out.trans hf);clear hf)
    exact ⟨⟨i+1,by omega,by go_num,LH (by rw [Pt.oddM_take hlt,hO.out,HQ.out,HCB.out];rfl),HF1⟩,by simp [intOf];omega⟩
   ·go_wp2_with (go_at_call 49;refine (badm_is _ _ _ _ _ _ _ HTX.out _ HCB.out).mono ?_;rintro e w1 ⟨rfl,hf⟩;have HF1:=LH (hF.out.trans hf);clear hf)
    go_ret
    exact ⟨⟨_,rfl,.inl ⟨Pt.oddM_at hlt (by rw [HQ.out];exact HCB.out),by omega⟩⟩,HF1.out⟩
  ·obtain rfl:i=l.length:=by omega
   go_wp2_with fail
   go_ret
   exact ⟨⟨_,rfl,.inr ⟨by have:=hO.out;rwa [List.take_length] at this,rfl⟩⟩,hF.out⟩
theorem cbad_is (l:List (List UInt8 × JV)) (A:Option Addr) (c:Nat) (w:World) (Z:Nat) (hZ:Z<=w.heap.size) (h:MsC w (Lo Z) A l) (hl:l.length<=140737488355328) (b:Bool) (hb:l.any Pt.badM=b):
  Calls Tryz.prog 48 #[.slice A l.length c,(Value.func (.func 49) #[] #[])] w λe w'=>e=.returned (.bool b)/\Fr w w':=by
 have HI:Hid (Calls Tryz.prog 68 #[.slice A l.length c,(Value.func (.func 49) #[] #[])] w λe w'=>(∃ z:Int,e=.returned (.int .i64 z)/\((b=true/\0<=z)\/(b=false/\z = -1)))/\Fr w w'):=LH (by rw [<- hb];exact idxbad_is l A c w Z hZ h hl);clear h hb
 cases b
 ·go_enter Tryz.func48,Tryz.ntmps48
  go_wp2_with (go_at_call 68;refine HI.out.mono ?_;rintro e w1 ⟨⟨z,rfl,hz⟩,hf⟩;obtain rfl:z = -1:=(by simpa using hz);have HF1:=LH hf;clear hf)
  go_ret
  exact ⟨rfl,HF1.out⟩
 ·go_enter Tryz.func48,Tryz.ntmps48
  go_wp2_with (go_at_call 68;refine HI.out.mono ?_;rintro e w1 ⟨⟨z,rfl,hz⟩,hf⟩;have hz0:0<=z:=(by simpa using hz);have HF1:=LH hf;clear hf hz)
  go_ret
  exact ⟨rfl,HF1.out⟩
theorem created_is (v:JV) (B:Option Addr) (d:Nat) (B':Option Addr) (d':Nat) (R:Nat) (us cs:Value) (w:World) (Sv:Nat->Prop) (hSv:∀ b,Sv b->b<R) (hv:InV w Sv v (vA v B d B' d')) (hr:Blk w R #[us,cs,(.slice none 0 0),.bool false] 26) (hn:Rd.nv v<=1048576) (b:Bool) (hb2:Pt.okM v=b):
  Calls Tryz.prog 27 #[.pointer (some ⟨R,0,none⟩),.agg #[.int .i64 v.kd,.int .i64 v.nm,.string ⟨v.tx.toArray⟩,.slice B v.ls.length d,.slice B' v.ms.length d']] w λe w'=>e=.returned (.bool b)/\FrX R w w' /\ ∃ crs,Blk w' R #[us,cs,crs,.bool (Pt.get v Pt.nIds).isSome] 26/\MsB w' R w.heap.size crs (Pt.getZ v Pt.nIds).ms:=by
 have hRw:R<w.heap.size:=hr.lt;have hSw:∀ b,Sv b->b<w.heap.size:=λb hb=>Nat.lt_trans (hSv b hb) hRw
 have HF1:Hid (Fr w (w.alloc (.cells #[.int .i64 v.kd,.int .i64 v.nm,.string ⟨v.tx.toArray⟩,.slice B v.ls.length d,.slice B' v.ms.length d'] 29))):=(FR w).alloc _;have HR:=LH hr;have HG:Hid (∀ W,Fr w W->Calls Tryz.prog 34 #[.agg #[.int .i64 v.kd,.int .i64 v.nm,.string ⟨v.tx.toArray⟩,.slice B v.ls.length d,.slice B' v.ms.length d'],.string ⟨#[99,114,101,97,116,101,100,73,100,115]⟩] W (OpS Sv W (Pt.get v Pt.nIds))):=LH (λW hW=>getS_is v B d B' d' Pt.nIds W Sv (λb hb=>lL (hSw b hb) hW.size) (hv.keepS hSw hW));have hnv:Rd.nv (Pt.getZ v Pt.nIds)<=1048576:=by
  rcases Pt.getZ_nv v Pt.nIds with h | h
  ·omega
  ·rw [h];decide
 cases hg:Pt.get v Pt.nIds with
 | none=>
  have HB:Hid (true=b):=LH (by rw [<- hb2];unfold Pt.okM;rw [hg]);have HZ:Hid (Pt.getZ v Pt.nIds=JV.zeroV):=LH (Pt.getZ_no hg);rw [hg] at HG;clear hv hr hn hb2 hg hnv;go_enter Tryz.func27,Tryz.ntmps27
  go_wp2_with (go_at_call 34;refine (HG.out _ HF1.out).mono ?_;rintro e w1 ⟨rfl,hf⟩;have HF2:=LH (HF1.out.trans hf);clear hf)
  go_ret
  exact ⟨by rw [<- HB.out];rfl,FrX.of (HF2.out.alloc _),_,HR.out.keep (HF2.out.alloc _),by rw [HZ.out];exact MsB.none_ _ ⟨Nat.le_of_lt hRw,(HF2.out.alloc _).size⟩⟩
 | some x=>
  rw [Pt.getZ_of hg] at hnv ⊢;have hml:x.ms.length<=1048576:=by have:=Pt.nv_eq x;have:=Pt.nvM_len x.ms;omega
  have hml':(x.ms.length:Int)<=1048576:=by omega
  have HB:Hid (Pt.okM1 x=b):=LH (by rw [<- hb2];unfold Pt.okM;rw [hg]);rw [hg] at HG;clear hv hr hn hb2 hg hnv;go_enter Tryz.func27,Tryz.ntmps27
  go_upto_region 2 with (go_at_call 34;refine (HG.out _ HF1.out).mono ?_;rintro e w1 ⟨P,p,P',p',rfl,hin,hf⟩;have HIN:=LH hin;have HF2:=LH (HF1.out.trans hf);clear hin hf)
  have hf5:=HF2.out.alloc (.cells #[.int .i64 x.kd,.int .i64 x.nm,.string ⟨x.tx.toArray⟩,.slice P x.ls.length p,.slice P' x.ms.length p'] 29);have hb5:=Blk.made w1 #[.int .i64 x.kd,.int .i64 x.nm,.string ⟨x.tx.toArray⟩,.slice P x.ls.length p,.slice P' x.ms.length p'] 29;have hi5:=HIN.out.keepS (λb hb=>lL (hSw b hb) HF2.out.size) ((FR w1).alloc (.cells #[.int .i64 x.kd,.int .i64 x.nm,.string ⟨x.tx.toArray⟩,.slice P x.ls.length p,.slice P' x.ms.length p'] 29));generalize (w1.alloc (.cells #[.int .i64 x.kd,.int .i64 x.nm,.string ⟨x.tx.toArray⟩,.slice P x.ls.length p,.slice P' x.ms.length p'] 29))=W5 at hf5 hb5 hi5 ⊢;generalize w1.heap.size=X5 at hb5 ⊢;have HR5:=LH (HR.out.keep hf5);obtain ⟨⟨b0,b1,b2,b3,b4⟩,_⟩:=box5 hb5;obtain ⟨A1,k5,A1',k6,he,_,hms⟩:=hi5.open_;have hA:P'=A1':=by obtain ⟨_,_,_,_,e4⟩:=five he;injection e4
  subst hA;have HB5:=LH hb5;have hnX:X5≠R:=λe=>by subst e;exact absurd (HR5.out.symm.trans hb5) (by simp)
  have hms:MsC W5 (Lo R) P' x.ms:=hms.map hSv (λ_ _ _=>rfl);have HCL:Hid (Calls Tryz.prog 47 #[.slice P' x.ms.length p'] W5 λe w'=>∃ v',e=.returned v'/\MsB w' R W5.heap.size v' x.ms/\Fr W5 w'):=LH (clone_m_is x.ms P' p' W5 R (Nat.le_of_lt HR5.out.lt) hms (by omega));have HM5:=LH hms;have HF5:=LH hf5;clear he hms hi5 hb5 hf5;go_upto_region 5 with (go_at_call 47;refine HCL.out.mono ?_;rintro e w4 ⟨v4,rfl,hm4,hf4⟩;obtain ⟨A4,c4,rfl⟩:=hm4.is_slice;obtain ⟨⟨r0,r1,r2,r3⟩,rf0,rf1,rf2,rf3⟩:=box4r (HR5.out.keep hf4);have HM4:=LH hm4;have HF4:=LH hf4;clear hm4 hf4)
  have hx6:FrX R W5 ((w4.setCell ⟨R,3,none⟩ (.bool true)).setCell ⟨R,2,none⟩ (.slice A4 x.ms.length c4)):=((FrX.of HF4.out).setCell (p:=⟨R,3,none⟩) rfl _).setCell (p:=⟨R,2,none⟩) rfl _;have hr6:Blk ((w4.setCell ⟨R,3,none⟩ (.bool true)).setCell ⟨R,2,none⟩ (.slice A4 x.ms.length c4)) R #[us,cs,(.slice A4 x.ms.length c4),.bool true] 26:=((HR5.out.keep HF4.out).set 3 (.bool true)).set 2 (.slice A4 x.ms.length c4);have hm6:MsB ((w4.setCell ⟨R,3,none⟩ (.bool true)).setCell ⟨R,2,none⟩ (.slice A4 x.ms.length c4)) R W5.heap.size (.slice A4 x.ms.length c4) x.ms:=HM4.out.frx (lR _) HR5.out.lt (((FrX.refl R w4).setCell (p:=⟨R,3,none⟩) rfl _).setCell (p:=⟨R,2,none⟩) rfl _);clear r0 r1 r2 r3 rf0 rf1 rf2 rf3;generalize ((w4.setCell ⟨R,3,none⟩ (.bool true)).setCell ⟨R,2,none⟩ (.slice A4 x.ms.length c4))=W6 at hx6 hr6 hm6 ⊢;obtain ⟨⟨y0,y1,y2,y3,y4⟩,_⟩:=box5 (HB5.out.frx hx6 hnX);have hms6:MsC W6 (Lo R) P' x.ms:=HM5.out.frx (Nat.le_of_lt HR5.out.lt) hx6;have HEND:Hid (∀ W,Fr W6 W->FrX R w W /\ ∃ crs,Blk W R #[us,cs,crs,.bool true] 26/\MsB W R w.heap.size crs x.ms):=LH (λW hW=>⟨((FrX.of HF5.out).trans hx6).fr hW,_,hr6.keep hW,(hm6.keep hW).lower (Nat.le_of_lt hRw) HF5.out.size⟩);obtain ⟨c,hc⟩:∃ c,x.ms.any Pt.badM=c:=⟨_,rfl⟩;have HCB:Hid (∀ W,Fr W6 W->Calls Tryz.prog 48 #[.slice P' x.ms.length p',(Value.func (.func 49) #[] #[])] W λe w'=>e=.returned (.bool c)/\Fr W w'):=LH (λW hW=>cbad_is x.ms P' p' W R (Nat.le_of_lt (hr6.keep hW).lt) (hms6.keep (Nat.le_of_lt hr6.lt) hW) (by omega) c hc);have hokm:Pt.okM1 x=(x.kd == 6 && (decide (x.ms.length<=256) && !c)):=by rw [<- hc];rfl
  have HOK:Hid (b=(x.kd == 6 && (decide (x.ms.length<=256) && !c))):=LH (by rw [<- HB.out,hokm]);have HK:Hid True:=LH trivial;clear hx6 hr6 hm6 hms6 hc hokm b0 b1 b2 b3 b4;by_cases k6:x.kd=6
  ·have q6:(x.kd == 6)=true:=by rw [beq_iff_eq];exact k6
   have HQ6:=LH q6;clear k6;by_cases hl:x.ms.length<=256
   ·have hl':(x.ms.length:Int)<=256:=by omega
    have HDL:Hid (decide (x.ms.length<=256)=true):=LH (dT hl);clear hl;go_wp2_with (go_at_call 48;refine (HCB.out _ (by first | exact FR _ | exact (FR _).drew)).mono ?_;rintro e w7 ⟨rfl,hf⟩;have HF7:=LH hf;clear hf)
    go_ret
    exact ⟨by rw [HOK.out,HQ6.out,HDL.out];rfl,HEND.out _ HF7.out⟩
   ·have hl':¬ ((x.ms.length:Int)<=256):=by omega
    have HDL:Hid (decide (x.ms.length<=256)=false):=LH (dF hl);clear hl;go_wp2_with fail
    go_ret
    exact ⟨by rw [HOK.out,HQ6.out,HDL.out];rfl,HEND.out _ (FR _)⟩
  ·have q6:(x.kd == 6)=false:=(ikind k6).1;have HQ6:=LH q6;clear k6;go_wp2_with fail
   go_ret
   exact ⟨by rw [HOK.out,HQ6.out];rfl,HEND.out _ (FR _)⟩
end Go.Proofs.YtockgemmkjdnkaaGreatDoor
