/- The walk of chapter 08's law of what stays. -/
import Derived.Test.YtdhakbghdcfncaaGreatDoorPtj
import Derived.Test.YtdhakbghdcfncaaGreatDoorPta
import Derived.Test.YtdhakbghdcfncaaGreatDoorReadM
import Derived.Test.YtdhakbghdcfncaaGreatDoorReadL
namespace Go.Proofs.YtdhakbghdcfncaaGreatDoor
set_option maxRecDepth 100000
set_option maxHeartbeats 4000000
set_option linter.unusedVariables false
set_option linter.unusedSimpArgs false
open Go.RowKit

namespace Pt
def ans (st:Bool) (ps:Option (List (List UInt8))) (v:JV):JV × Int:=match ps with
 | none=>(JV.zeroV,80)
 | some ps=>match find st ps v with
  | none=>(JV.zeroV,81)
  | some y=>(y,0)
end Pt
/- The walks of the document's Own, Count (cardboxref07). -/

theorem own7_is (v:JV):∀ (x:Value) (w:World),InV w (Lo w.heap.size) v x→Calls Tryz.prog 27 #[x] w fun e w'=>(∃ b:Bool,e=.returned (.bool b))∧Fr w w':=by
 induction v using JV.ind with
 | h k n s l m ihl ihm=>
  intro x w hv
  obtain ⟨A,c0,A',c0',rfl,hls,hms⟩:=hv.open_
  obtain ⟨_,_,_,hl63,hm63⟩:=hv.facts
  have hl63:l.length≤140737488355328:=hl63
  have hm63:m.length≤140737488355328:=hm63
  have HLS:=Lib.hid hls
  have HMS:=Lib.hid hms
  have HIHL:=Lib.hid ihl
  have HIHM:=Lib.hid ihm
  have hl63':(l.length:Int)≤140737488355328:=by omega
  have hm63':(m.length:Int)≤140737488355328:=by omega
  obtain ⟨L,hL⟩:∃ L,l.length=L:=⟨_,rfl⟩
  obtain ⟨M,hM⟩:∃ M,m.length=M:=⟨_,rfl⟩
  rw [hL] at hl63'
  rw [hM] at hm63'
  have HL:=Lib.hid hL
  have HM:=Lib.hid hM
  show Calls Tryz.prog _ #[.agg #[.int .i64 k,.int .i64 n,.string ⟨s.toArray⟩,.slice A l.length c0,.slice A' m.length c0']] _ _
  rw [hL,hM]
  have hgo:∀ wr:World,Hid (Fr (w.alloc (.cells #[.int .i64 k,.int .i64 n,.string ⟨s.toArray⟩,.slice A L c0,.slice A' M c0'] 25)) wr)→wr.cell? ⟨w.heap.size,3,none⟩=some (.slice A L c0)∧wr.cell? ⟨w.heap.size,4,none⟩=some (.slice A' M c0'):=fun wr hf=>
   ⟨((Blk.made w #[.int .i64 k,.int .i64 n,.string ⟨s.toArray⟩,.slice A L c0,.slice A' M c0'] 25).keep hf.out).cell 3,((Blk.made w #[.int .i64 k,.int .i64 n,.string ⟨s.toArray⟩,.slice A L c0,.slice A' M c0'] 25).keep hf.out).cell 4⟩
  have HGO:=Lib.hid hgo
  have top:(k≠5∧0<L)∨(k=5∧0<M)∨(k≠5∧L=0∧k≠6∧0<M)∨((k=5∨L=0)∧(k=6∨M=0)):=by omega
  clear hls hms ihl ihm hl63 hm63 hL hM hv hgo
  rcases top with ⟨h1,h2⟩ | ⟨h1,h2⟩ | ⟨h1,h2,h3,h4⟩ | top
  ·obtain ⟨q1,q2⟩:=ikind h1
   have h2':(0:Int)<(L:Int):=by omega
   have d2:decide ((0:Int)<(L:Int))=true:=decide_eq_true h2'
   clear h1
   go_enter Tryz.func27,Tryz.ntmps27
   go_wp2_with fail
   go_ret
   exact ⟨⟨_,rfl⟩,(Fr.refl w).alloc _⟩
  ·subst h1
   have h2':(0:Int)<(M:Int):=by omega
   have d2:decide ((0:Int)<(M:Int))=true:=decide_eq_true h2'
   go_enter Tryz.func27,Tryz.ntmps27
   go_wp2_with fail
   go_ret
   exact ⟨⟨_,rfl⟩,(Fr.refl w).alloc _⟩
  ·obtain ⟨q1,q2⟩:=ikind h1
   obtain ⟨q3,q4⟩:=ikind h3
   subst h2
   have h2':(0:Int)<(M:Int):=by omega
   have d2:decide ((0:Int)<(M:Int))=true:=decide_eq_true h2'
   clear h1 h3
   go_enter Tryz.func27,Tryz.ntmps27
   go_wp2_with fail
   go_ret
   exact ⟨⟨_,rfl⟩,(Fr.refl w).alloc _⟩
  ·have four:(((k != 5)=false∧((k != 6)=true ∧ ¬ ((0:Int)<(M:Int)) ∧ ¬ (0<M)))∨((k != 5)=true∧(¬ ((0:Int)<(L:Int)) ∧ ¬ (0<L))∧(k != 6)=false))∨((k != 5)=true∧(¬ ((0:Int)<(L:Int)) ∧ ¬ (0<L))∧((k != 6)=true ∧ ¬ ((0:Int)<(M:Int)) ∧ ¬ (0<M))):=by
    by_cases h5:k=5
    ·subst h5
     refine .inl (.inl ⟨by decide,by decide,?_,?_⟩) <;> omega
    ·by_cases h6:k=6
     ·subst h6
      refine .inl (.inr ⟨by decide,⟨?_,?_⟩,by decide⟩) <;> omega
     ·refine .inr ⟨(ikind h5).2,⟨?_,?_⟩,(ikind h6).2,?_,?_⟩ <;> omega
   clear top
   rcases four with (⟨q1,q2,q3,q4⟩ | ⟨q1,⟨q2,q3⟩,q4⟩) | ⟨q1,⟨q2,q3⟩,q4,q5,q6⟩
   all_goals
    go_enter Tryz.func27,Tryz.ntmps27
    go_wp2_with fail
    go_loopw [3] (fun j wr=>∃ (i:Nat),i≤L∧j=.int .i64 i∧Hid (Fr (w.alloc (.cells #[.int .i64 k,.int .i64 n,.string ⟨s.toArray⟩,.slice A L c0,.slice A' M c0'] 25)) wr)) (fun j _=>L - (intOf j).toNat)
    case atStart=>exact ⟨0,by omega,rfl,Lib.hid (Fr.refl _)⟩
    case round=>
     obtain ⟨i,hi,rfl,hF⟩:=hrel
     obtain ⟨y3,y4⟩:=HGO.out wr hF
     by_cases h:i<L
     ·try (exact absurd h (by omega))
      all_goals
       have hil:i<l.length:=by have:=HL.out;omega
       obtain ⟨b,o,B,dd,B',dd',rfl,hb,⟨e1,e2,e3,e4,e5⟩,hiv⟩:=(show LsC wr (Lo w.heap.size) A l from HLS.out.keep (Nat.le_refl _) (((Fr.refl w).alloc _).trans hF.out)) i hil
       have hih:=HIHL.out l[i] (List.getElem_mem hil)
       obtain ⟨u,hu⟩:∃ u,l[i]=u:=⟨_,rfl⟩
       rw [hu] at e1 e2 e3 e4 e5 hiv hih
       clear hu
       have HCT:=Lib.hid (hih _ wr (hiv.lo (Nat.le_trans (by simp) (Fr.size hF.out))))
       have h':(i:Int)<(L:Int):=by omega
       clear hih hiv
       go_wp2_with (go_at_call 27;refine HCT.out.mono ?_;rintro e w2 ⟨⟨b2,rfl⟩,hf⟩;have HF2:=Lib.hid (Fr.trans hF.out hf);clear hf;cases b2)
       all_goals first
        | exact ⟨⟨i+1,by omega,by go_num,HF2⟩,by simp [intOf];omega⟩
        | (go_ret;exact ⟨⟨_,rfl⟩,((Fr.refl w).alloc _).trans HF2.out⟩)
     ·go_wp2_with fail
      go_loopw [4] (fun j wr=>∃ (i:Nat),i≤M∧j=.int .i64 i∧Hid (Fr (w.alloc (.cells #[.int .i64 k,.int .i64 n,.string ⟨s.toArray⟩,.slice A L c0,.slice A' M c0'] 25)) wr)) (fun j _=>M - (intOf j).toNat)
      case atStart=>exact ⟨0,by omega,rfl,hF⟩
      case round=>
       obtain ⟨i,hi,rfl,hF⟩:=hrel
       obtain ⟨y3,y4⟩:=HGO.out wr hF
       by_cases h:i<M
       ·try (exact absurd h (by omega))
        all_goals
         have hil:i<m.length:=by have:=HM.out;omega
         obtain ⟨b,o,B,dd,B',dd',rfl,hb,hnl,e0,⟨e1,e2,e3,e4,e5⟩,hiv⟩:=(show MsC wr (Lo w.heap.size) A' m from HMS.out.keep (Nat.le_refl _) (((Fr.refl w).alloc _).trans hF.out)) i hil
         have hih:=HIHM.out m[i] (List.getElem_mem hil)
         obtain ⟨u,hu⟩:∃ u,m[i].2=u:=⟨_,rfl⟩
         rw [hu] at e1 e2 e3 e4 e5 hiv hih
         clear hu
         have HCT:=Lib.hid (hih _ wr (hiv.lo (Nat.le_trans (by simp) (Fr.size hF.out))))
         have h':(i:Int)<(M:Int):=by omega
         clear hih hiv
         go_wp2_with (go_at_call 27;refine HCT.out.mono ?_;rintro e w2 ⟨⟨b2,rfl⟩,hf⟩;have HF2:=Lib.hid (Fr.trans hF.out hf);clear hf;cases b2)
         all_goals first
          | exact ⟨⟨i+1,by omega,by go_num,HF2⟩,by simp [intOf];omega⟩
          | (go_ret;exact ⟨⟨_,rfl⟩,((Fr.refl w).alloc _).trans HF2.out⟩)
       ·go_wp2_with fail
        go_ret
        exact ⟨⟨_,rfl⟩,((Fr.refl w).alloc _).trans hF.out⟩

def C7At (v:JV) (x:Value) (w:World):Prop:=∀ most:Int,0≤most→most≤9000000000000000000→Calls Tryz.prog 26 #[x,.int .i64 most] w fun e w'=>(∃ z:Int,e=.returned (.int .i64 z)∧1≤z∧z≤(Rd.nv v:Nat))∧Fr w w'

theorem count7_is (v:JV):∀ (x:Value) (w:World),InV w (Lo w.heap.size) v x→Rd.nv v≤1048576→C7At v x w:=by
 induction v using JV.ind with
 | h k n s l m ihl ihm=>
  intro x w hv hn most hm0 hm1
  obtain ⟨A,c0,A',c0',rfl,hls,hms⟩:=hv.open_
  obtain ⟨_,_,_,hl63,hm63⟩:=hv.facts
  have hl63:l.length≤140737488355328:=hl63
  have hm63:m.length≤140737488355328:=hm63
  rw [Rd.nv_mk] at hn ⊢
  have HN:=Lib.hid hn
  have HLS:=Lib.hid hls
  have HMS:=Lib.hid hms
  have HIHL:=Lib.hid ihl
  have HIHM:=Lib.hid ihm
  have hl63':(l.length:Int)≤140737488355328:=by omega
  have hm63':(m.length:Int)≤140737488355328:=by omega
  obtain ⟨L,hL⟩:∃ L,l.length=L:=⟨_,rfl⟩
  obtain ⟨M,hM⟩:∃ M,m.length=M:=⟨_,rfl⟩
  rw [hL] at hl63'
  rw [hM] at hm63'
  have HL:=Lib.hid hL
  have HM:=Lib.hid hM
  show Calls Tryz.prog _ #[.agg #[.int .i64 k,.int .i64 n,.string ⟨s.toArray⟩,.slice A l.length c0,.slice A' m.length c0'],_] _ _
  rw [hL,hM]
  have hgo:∀ wr:World,Hid (Fr (w.alloc (.cells #[.int .i64 k,.int .i64 n,.string ⟨s.toArray⟩,.slice A L c0,.slice A' M c0'] 25)) wr)→wr.cell? ⟨w.heap.size,3,none⟩=some (.slice A L c0)∧wr.cell? ⟨w.heap.size,4,none⟩=some (.slice A' M c0'):=fun wr hf=>
   ⟨((Blk.made w #[.int .i64 k,.int .i64 n,.string ⟨s.toArray⟩,.slice A L c0,.slice A' M c0'] 25).keep hf.out).cell 3,((Blk.made w #[.int .i64 k,.int .i64 n,.string ⟨s.toArray⟩,.slice A L c0,.slice A' M c0'] 25).keep hf.out).cell 4⟩
  have HGO:=Lib.hid hgo
  clear hls hms ihl ihm hl63 hm63 hL hM hv hgo hn
  go_enter Tryz.func26,Tryz.ntmps26
  go_wp2_with fail
  go_loopw [5,6] (fun a j wr=>∃ (i:Nat) (z:Int),i≤L∧j=.int .i64 i∧a=.int .i64 z∧1≤z∧z≤1048576∧Hid (z≤((1+Rd.nvL (l.take i):Nat):Int))∧Hid (Fr (w.alloc (.cells #[.int .i64 k,.int .i64 n,.string ⟨s.toArray⟩,.slice A L c0,.slice A' M c0'] 25)) wr)) (fun _ j _=>L - (intOf j).toNat)
  case atStart=>exact ⟨0,1,by omega,rfl,rfl,by omega,by omega,Lib.hid (by omega),Lib.hid (Fr.refl _)⟩
  case round=>
   obtain ⟨i,z,hi,rfl,rfl,hz1,hz2,hz,hF⟩:=hrel
   obtain ⟨y3,y4⟩:=HGO.out wr hF
   have fin:Hid (z≤((1+Rd.nvL l:Nat):Int)):=by
    have:=Rd.nvL_take_le l i
    have:=hz.out
    show _≤_
    omega
   have alt:(i<L∧z≤most)∨(i<L ∧ ¬ z≤most) ∨ ¬ i<L:=by omega
   rcases alt with ⟨h,hzm⟩ | alt
   ·have hil:i<l.length:=by have:=HL.out;omega
    obtain ⟨b,o,B,dd,B',dd',rfl,hb,⟨e1,e2,e3,e4,e5⟩,hiv⟩:=(show LsC wr (Lo w.heap.size) A l from HLS.out.keep (Nat.le_refl _) (((Fr.refl w).alloc _).trans hF.out)) i hil
    have hih:=HIHL.out l[i] (List.getElem_mem hil)
    have hnt:=Rd.nvL_take hil
    have hnm:=Rd.nvL_mem (List.getElem_mem hil)
    have hnl:=Rd.nvL_take_le l (i+1)
    obtain ⟨u,hu⟩:∃ u,l[i]=u:=⟨_,rfl⟩
    rw [hu] at e1 e2 e3 e4 e5 hiv hih hnt hnm
    clear hu
    have HCT:=Lib.hid (hih _ wr (hiv.lo (Nat.le_trans (by simp) (Fr.size hF.out))) (by have:=HN.out;omega))
    have HNT:Hid (∀ y:Int,y≤(Rd.nv u:Nat)→z+y≤1048576∧z+y≤((1+Rd.nvL (l.take (i+1)):Nat):Int)):=fun y hy=>by
     have:=hz.out
     have:=HN.out
     constructor <;> omega
    have HNU:Hid (Rd.nv u≤1048576):=by have:=HN.out;show _≤_;omega
    have h':(i:Int)<(L:Int):=by omega
    clear hih hiv hnt hnm hnl fin
    go_wp2_with (go_at_call 26;refine (HCT.out _ (by omega) (by omega)).mono ?_;rintro e w2 ⟨⟨y,rfl,p1,p2⟩,hf⟩;obtain ⟨p3,p4⟩:=HNT.out y p2;have P4:=Lib.hid p4;have HF2:=Lib.hid (Fr.trans hF.out hf);clear hf p2 p4)
    exact ⟨⟨i+1,z+y,by omega,by go_num,by go_num,by omega,p3,P4,HF2⟩,by simp [intOf];omega⟩
   ·rcases alt with ⟨h,hzm⟩ | h
    all_goals
     clear hz
     go_wp2_with fail
     go_loopw [5,7] (fun a j wr=>∃ (i:Nat) (z:Int),i≤M∧j=.int .i64 i∧a=.int .i64 z∧1≤z∧z≤1048576∧Hid (z≤((1+Rd.nvL l+Rd.nvM (m.take i):Nat):Int))∧Hid (Fr (w.alloc (.cells #[.int .i64 k,.int .i64 n,.string ⟨s.toArray⟩,.slice A L c0,.slice A' M c0'] 25)) wr)) (fun _ j _=>M - (intOf j).toNat)
     case atStart=>exact ⟨0,z,by omega,rfl,rfl,hz1,hz2,Lib.hid (by have:=fin.out;omega),hF⟩
     case round=>
      obtain ⟨i,z,hi,rfl,rfl,hz1,hz2,hz,hF⟩:=hrel
      obtain ⟨y3,y4⟩:=HGO.out wr hF
      have fin:Hid (z≤((1+Rd.nvL l+Rd.nvM m:Nat):Int)):=by
       have:=Rd.nvM_take_le m i
       have:=hz.out
       show _≤_
       omega
      have alt:(i<M∧z≤most)∨(i<M ∧ ¬ z≤most) ∨ ¬ i<M:=by omega
      rcases alt with ⟨h,hzm⟩ | ⟨h,hzm⟩ | h
      ·have hil:i<m.length:=by have:=HM.out;omega
       obtain ⟨b,o,B,dd,B',dd',rfl,hb,hnl0,e0,⟨e1,e2,e3,e4,e5⟩,hiv⟩:=(show MsC wr (Lo w.heap.size) A' m from HMS.out.keep (Nat.le_refl _) (((Fr.refl w).alloc _).trans hF.out)) i hil
       have hih:=HIHM.out m[i] (List.getElem_mem hil)
       have hnt:=Rd.nvM_take hil
       have hnm:=Rd.nvM_mem (List.getElem_mem hil)
       have hnl:=Rd.nvM_take_le m (i+1)
       obtain ⟨u,hu⟩:∃ u,m[i].2=u:=⟨_,rfl⟩
       rw [hu] at e1 e2 e3 e4 e5 hiv hih hnt hnm
       clear hu
       have HCT:=Lib.hid (hih _ wr (hiv.lo (Nat.le_trans (by simp) (Fr.size hF.out))) (by have:=HN.out;omega))
       have HNT:Hid (∀ y:Int,y≤(Rd.nv u:Nat)→z+y≤1048576∧z+y≤((1+Rd.nvL l+Rd.nvM (m.take (i+1)):Nat):Int)):=fun y hy=>by
        have:=hz.out
        have:=HN.out
        constructor <;> omega
       have h':(i:Int)<(M:Int):=by omega
       clear hih hiv hnt hnm hnl fin
       go_wp2_with (go_at_call 26;refine (HCT.out _ (by omega) (by omega)).mono ?_;rintro e w2 ⟨⟨y,rfl,p1,p2⟩,hf⟩;obtain ⟨p3,p4⟩:=HNT.out y p2;have P4:=Lib.hid p4;have HF2:=Lib.hid (Fr.trans hF.out hf);clear hf p2 p4)
       exact ⟨⟨i+1,z+y,by omega,by go_num,by go_num,by omega,p3,P4,HF2⟩,by simp [intOf];omega⟩
      all_goals
       go_wp2_with fail
       go_ret
       exact ⟨⟨z,rfl,hz1,fin.out⟩,((Fr.refl w).alloc _).trans hF.out⟩
/- The walks of the document's level, deep, Few (cardboxref07). -/

def LvAt (most:Nat):Prop:=∀ (us:List JV) (A:Option Addr) (c:Nat) (w:World) (z:Int),z=(most:Nat)→LsC w (Lo w.heap.size) A us→Rd.nvL us≤1048577 →
 Calls Tryz.prog 50 #[.slice A us.length c,.int .i64 z] w fun e w'=>(∃ b:Bool,e=.returned (.bool b))∧Fr w w'
theorem VsB.lsC {w:World} {Z K:Nat} {A:Option Addr} {c:Nat} {l:List JV} (h:VsB w Z K (.slice A l.length c) l) (h63:l.length≤140737488355328):LsC w (Lo w.heap.size) A l:=by
 have hv:=h.inV h63
 obtain ⟨D,g,D',g',he,hls,_⟩:=hv.open_
 have hD:A=D:=by obtain ⟨_,_,_,e3,_⟩:=five he;injection e3
 subst hD
 exact hls.map (fun b hb=>by show b<_;have:=h.1;rcases hb with hb | hb <;> omega) (fun _ _ _=>rfl)
theorem vsb_fr {w a b:World} {Z K:Nat} {v:Value} {l:List JV} (hf:Fr w a) (hv:VsB a Z K v l) (hK:w.heap.size≤K) (hg:a.grownBy b v.ownBlock):Fr w b:=
 Below.grown hf hg hf.size (fun k hk=>by have:=(hv.own_lt hk).1;omega)

theorem level_step (most:Nat) (hm:most≤100) (ih:∀ p,p+1=most→LvAt p):LvAt most:=by
 intro us A c w z hz hls hn
 subst hz
 have hlen:=Pt.nvL_len us
 have hl':(us.length:Int)≤1048577:=by omega
 have HLS:=Lib.hid hls
 have HN:=Lib.hid hn
 have HIH:=Lib.hid ih
 have HV0:Hid (VsB w w.heap.size w.heap.size (.slice none 0 0) []):=VsB.none_ w ⟨Nat.le_refl _,Nat.le_refl _⟩
 clear hls hn ih hlen
 go_enter Tryz.func50,Tryz.ntmps50
 go_wp2_with fail
 go_loopw [5,6] (fun nx j wr=>∃ (i:Nat) (acc:List JV),i≤us.length∧j=.int .i64 i∧Hid (VsB wr w.heap.size w.heap.size nx acc)∧Hid (Rd.nvL acc+Rd.nvL (us.drop i)≤1048577)∧Hid (Fr w wr)) (fun _ j _=>us.length - (intOf j).toNat)
 case atStart=>exact ⟨0,[],by omega,rfl,HV0,Lib.hid (by rw [List.drop_zero,Rd.nvL_nil];have:=HN.out;omega),Lib.hid (Fr.refl w)⟩
 case round=>
  obtain ⟨i,acc,hi,rfl,hV,hcnt,hF⟩:=hrel
  obtain ⟨sa,sc,rfl⟩:=hV.out.is_slice
  by_cases hlt:i<us.length
  ·have hlt':(i:Int)<(us.length:Int):=by omega
   obtain ⟨b,o,C,e,C',e',rfl,hb,⟨c1,c2,c3,c4,c5⟩,hv⟩:=HLS.out i hlt
   have hc2:=hcnt.out
   rw [List.drop_eq_getElem_cons hlt,Rd.nvL_cons] at hc2
   obtain ⟨u,hu⟩:∃ u,us[i]=u:=⟨_,rfl⟩
   rw [hu] at c1 c2 c3 c4 c5 hv hc2
   obtain ⟨D,g,D',g',he,hls,hms⟩:=hv.open_
   obtain ⟨hD,hD'⟩:C=D∧C'=D':=by obtain ⟨_,_,_,e3,e4⟩:=five he;injection e3;injection e4;exact ⟨‹_›,‹_›⟩
   subst hD;subst hD'
   obtain ⟨_,_,_,hL63,hM63⟩:=hv.facts
   have hL63':(u.ls.length:Int)≤140737488355328:=by omega
   have hM63':(u.ms.length:Int)≤140737488355328:=by omega
   have HCE:Hid (∀ W,Fr w W→W.cell? ⟨b,o+i*5+3,none⟩=some (.slice C u.ls.length e)∧W.cell? ⟨b,o+i*5+4,none⟩=some (.slice C' u.ms.length e')):=fun W hW=>⟨(hW.cell hb).trans c4,(hW.cell hb).trans c5⟩
   have HLL:Hid (∀ W,Fr w W→LsC W (InB w.heap.size w.heap.size W (.slice sa acc.length sc)) C u.ls):=fun W hW=>(hls.keep (Nat.le_refl _) hW).map (fun b hb=>.inl hb) (fun _ _ _=>rfl)
   have HMM:Hid (∀ W,Fr w W→MsC W (Lo w.heap.size) C' u.ms):=fun W hW=>hms.keep (Nat.le_refl _) hW
   have hnu:=Pt.nv_eq u
   have hll:=Pt.nvL_len u.ls
   have hal:=Pt.nvL_len acc
   have HC2:Hid (Rd.nvL (acc++u.ls)+Rd.nvM u.ms+Rd.nvL (us.drop (i+1))≤1048577):=by
    show _≤_
    rw [Rd.nvL_app];omega
   have hk63:(acc.length+u.ls.length)*80≤140737488355328:=by omega
   obtain ⟨x3,x4⟩:=HCE.out wr hF.out
   clear hu c1 c2 c3 c4 c5 hv hc2 he hls hms hnu hll hal hcnt hL63 hM63
   by_cases hq:20000<u.ls.length+u.ms.length
   ·have q1:(20000:Int)<(u.ls.length:Int)+(u.ms.length:Int):=by omega
    go_wp2_with fail
    go_quiet (fail)
    go_wp2_with fail
    go_ret
    exact ⟨by first | exact ⟨_,rfl⟩ | exact .inl rfl | exact .inr rfl,hF.out.drewN _⟩
   ·have q1:¬ (20000:Int)<(u.ls.length:Int)+(u.ms.length:Int):=by omega
    have q2:(u.ls.length:Int)+(u.ms.length:Int)≤20000:=by omega
    go_wp2_with fail
    go_quiet (fail)
    go_wp2_with (at_builtin;refine wpl_vB rfl (.tmp 28) (.tmp 33) rfl w.heap.size w.heap.size _ acc rfl (hV.out.keep ((Fr.refl wr).drewN _)) C e u.ls.length u.ls rfl rfl (HLL.out _ (hF.out.drewN _)) hk63 ?_;intro v4 w4 hv4 hg4;obtain ⟨a4,c4,rfl⟩:=hv4.is_slice2 (n:=u.ls.length) rfl;have HF4:=Lib.hid (vsb_fr (hF.out.drewN _) (hV.out.keep ((Fr.refl wr).drewN _)) (Nat.le_refl _) hg4);have HV4:=Lib.hid hv4;clear hv4 hg4)
    go_loopw [5,7] (fun nx j wr=>∃ (t:Nat) (acc2:List JV),t≤u.ms.length∧j=.int .i64 t∧Hid (VsB wr w.heap.size w.heap.size nx acc2)∧Hid (Rd.nvL acc2+Rd.nvM (u.ms.drop t)+Rd.nvL (us.drop (i+1))≤1048577)∧Hid (Fr w wr)) (fun _ j _=>u.ms.length - (intOf j).toNat)
    case atStart=>exact ⟨0,acc++u.ls,by omega,rfl,HV4,Lib.hid (by rw [List.drop_zero];exact HC2.out),HF4⟩
    case round=>
     obtain ⟨t,acc2,ht,rfl,hV2,hcnt2,hF2⟩:=hrel
     obtain ⟨sa2,sc2,rfl⟩:=hV2.out.is_slice
     obtain ⟨z3,z4⟩:=HCE.out wr hF2.out
     have hal2:=Pt.nvL_len acc2
     have hal3:acc2.length≤1048577:=by have:=hcnt2.out;omega
     have hal4:(acc2.length:Int)≤1048577:=by omega
     by_cases htl:t<u.ms.length
     ·have htl':(t:Int)<(u.ms.length:Int):=by omega
      obtain ⟨b2,o2,B,d,B',d',rfl,hb2,hnl,e0,⟨e1,e2,e3,e4,e5⟩,hiv⟩:=HMM.out _ hF2.out t htl
      have hc3:=hcnt2.out
      rw [List.drop_eq_getElem_cons htl,Rd.nvM_cons] at hc3
      obtain ⟨x,hx⟩:∃ x,u.ms[t].2=x:=⟨_,rfl⟩
      rw [hx] at e1 e2 e3 e4 e5 hiv hc3
      have HX:Hid (InV wr (InB w.heap.size w.heap.size wr (.slice sa2 acc2.length sc2)) x (vA x B d B' d')):=hiv.more (fun b hb=>.inl hb)
      have HC3:Hid (Rd.nvL (acc2++[x])+Rd.nvM (u.ms.drop (t+1))+Rd.nvL (us.drop (i+1))≤1048577):=by
       show _≤_
       rw [Rd.nvL_app,Rd.nvL_cons,Rd.nvL_nil];omega
      have hk64:(acc2.length+1)*80≤140737488355328:=by omega
      clear hx hiv hc3 hcnt2 hal2
      go_wp2_with (at_builtin;refine wpl_vB_lit rfl (.tmp 45) (.tmp 55) rfl w.heap.size w.heap.size _ acc2 rfl hV2.out x B d B' d' rfl HX.out rfl (by simp) hk64 ?_;intro v5 w5 hv5 hg5;obtain ⟨a5,c5,rfl⟩:=hv5.is_slice2 (n:=1) rfl;have HF5:=Lib.hid (vsb_fr (hF2.out.alloc _) (hV2.out.keep ((Fr.refl wr).alloc _)) (Nat.le_refl _) hg5);have HV5:=Lib.hid hv5;clear hv5 hg5)
      exact ⟨⟨t+1,acc2++[x],by omega,by go_num,by simpa using HV5,HC3,HF5⟩,by simp [intOf];omega⟩
     ·obtain rfl:u.ms.length=t:=by omega
      by_cases hq2:20000<acc2.length
      ·have q4:(20000:Int)<(acc2.length:Int):=by omega
       go_wp2_with fail
       go_ret
       exact ⟨by first | exact ⟨_,rfl⟩ | exact .inl rfl | exact .inr rfl,hF2.out⟩
      ·have q4:¬ (20000:Int)<(acc2.length:Int):=by omega
       go_wp2_with fail
       exact ⟨⟨i+1,acc2,by omega,by go_num,hV2,Lib.hid (by have:=hcnt2.out;rw [List.drop_length,Rd.nvM_nil] at this;omega),hF2⟩,by simp [intOf];omega⟩
  ·obtain rfl:us.length=i:=by omega
   have hcl:=hcnt.out
   rw [List.drop_length,Rd.nvL_nil] at hcl
   have hal:=Pt.nvL_len acc
   have hal4:(acc.length:Int)≤1048577:=by omega
   rcases Nat.eq_zero_or_pos acc.length with h0 | h0
   ·rw [h0] at hV ⊢
    go_wp2_with fail
    go_ret
    exact ⟨by first | exact ⟨_,rfl⟩ | exact .inl rfl | exact .inr rfl,hF.out⟩
   ·have q1:((acc.length:Int) == 0)=false:=by rw [beq_eq_false_iff_ne];omega
    cases most with
    | zero=>
     go_wp2_with fail
     go_ret
     exact ⟨by first | exact ⟨_,rfl⟩ | exact .inl rfl | exact .inr rfl,hF.out⟩
    | succ p=>
     have q2:(0:Int)<((p+1:Nat):Int):=by omega
     have q3:((p+1:Nat):Int)≤100:=by omega
     have HCL:Hid (∀ z:Int,z=(p:Nat)→Calls Tryz.prog 50 #[.slice sa acc.length sc,.int .i64 z] wr fun e w'=>(∃ b:Bool,e=.returned (.bool b))∧Fr wr w'):=fun z hz=>HIH.out p rfl acc sa sc wr z hz (hV.out.lsC (by omega)) (by omega)
     clear hcl hal
     go_wp2_with (go_at_call 50;refine (HCL.out _ (by go_num)).mono ?_;rintro e w6 ⟨⟨b6,rfl⟩,hf⟩;have HF6:=Lib.hid (hF.out.trans hf);clear hf)
     go_ret
     exact ⟨by first | exact ⟨_,rfl⟩ | exact .inl rfl | exact .inr rfl,HF6.out⟩
theorem level_is (most:Nat) (hm:most≤100):LvAt most:=by
 induction most with
 | zero=>exact level_step 0 hm (fun p hp=>absurd hp (by omega))
 | succ p ih=>exact level_step (p+1) hm (fun q hq=>by have e:q=p:=(by omega);subst e;exact ih (by omega))

theorem deep_is (v:JV) (B:Option Addr) (d:Nat) (B':Option Addr) (d':Nat) (w:World) (hv:InV w (Lo w.heap.size) v (vA v B d B' d')) (hn:Rd.nv v≤1048576):
  Calls Tryz.prog 25 #[.agg #[.int .i64 v.kd,.int .i64 v.nm,.string ⟨v.tx.toArray⟩,.slice B v.ls.length d,.slice B' v.ms.length d'],.int .i64 100] w fun e w'=>(∃ b:Bool,e=.returned (.bool b))∧Fr w w':=by
 obtain ⟨_,_,_,hL63,hM63⟩:=hv.facts
 have hL63':(v.ls.length:Int)≤140737488355328:=by omega
 have hM63':(v.ms.length:Int)≤140737488355328:=by omega
 have HL:Hid (∀ W,Fr w W→LsC (W.alloc (.cells #[.int .i64 v.kd,.int .i64 v.nm,.string ⟨v.tx.toArray⟩,.slice B v.ls.length d,.slice B' v.ms.length d'] 25)) (Lo (W.heap.size+1)) (some ⟨W.heap.size,0,none⟩) [v]):=fun W hW i hi=>by
  obtain rfl:i=0:=by simp at hi;omega
  have hb:=Blk.made W #[.int .i64 v.kd,.int .i64 v.nm,.string ⟨v.tx.toArray⟩,.slice B v.ls.length d,.slice B' v.ms.length d'] 25
  exact ⟨W.heap.size,0,B,d,B',d',rfl,Nat.lt_succ_self _,⟨hb.cell 0,hb.cell 1,hb.cell 2,hb.cell 3,hb.cell 4⟩,((hv.keep (Nat.le_refl _) hW).keep hW.size ((Fr.refl W).alloc _)).lo (Nat.le_trans hW.size (Nat.le_succ _))⟩
 have HN:Hid (Rd.nvL [v]≤1048577):=by show _≤_;rw [Rd.nvL_cons,Rd.nvL_nil];omega
 clear hv hn hL63 hM63
 have alt:10000<v.ls.length∨(¬ 10000<v.ls.length∧10000<v.ms.length)∨(¬ 10000<v.ls.length ∧ ¬ 10000<v.ms.length∧v.ls.length+v.ms.length=0)∨(¬ 10000<v.ls.length ∧ ¬ 10000<v.ms.length∧0<v.ls.length+v.ms.length):=by omega
 rcases alt with h1 | ⟨h1,h2⟩ | ⟨h1,h2,h3⟩ | ⟨h1,h2,h3⟩
 ·have q1:(10000:Int)<(v.ls.length:Int):=by omega
  go_enter Tryz.func25,Tryz.ntmps25
  go_wp2_with fail
  go_ret
  exact ⟨by first | exact ⟨_,rfl⟩ | exact .inl rfl | exact .inr rfl,(Fr.refl w).alloc _⟩
 ·have q1:¬ (10000:Int)<(v.ls.length:Int):=by omega
  have q2:(10000:Int)<(v.ms.length:Int):=by omega
  go_enter Tryz.func25,Tryz.ntmps25
  go_wp2_with fail
  go_ret
  exact ⟨by first | exact ⟨_,rfl⟩ | exact .inl rfl | exact .inr rfl,(Fr.refl w).alloc _⟩
 ·have q1:¬ (10000:Int)<(v.ls.length:Int):=by omega
  have q2:¬ (10000:Int)<(v.ms.length:Int):=by omega
  have q3:¬ (0:Int)<(v.ls.length:Int)+(v.ms.length:Int):=by omega
  go_enter Tryz.func25,Tryz.ntmps25
  go_wp2_with (go_at_call 50;refine (level_is 100 (Nat.le_refl _) [v] _ _ _ _ rfl (by simpa using HL.out _ ((Fr.refl w).alloc _)) HN.out).mono ?_;rintro e w1 ⟨⟨b1,rfl⟩,hf⟩;have HF1:=Lib.hid ((((Fr.refl w).alloc _).alloc _).trans hf);clear hf)
  go_ret
  exact ⟨by first | exact ⟨_,rfl⟩ | exact .inl rfl | exact .inr rfl,HF1.out⟩
 ·have q1:¬ (10000:Int)<(v.ls.length:Int):=by omega
  have q2:¬ (10000:Int)<(v.ms.length:Int):=by omega
  have q3:(0:Int)<(v.ls.length:Int)+(v.ms.length:Int):=by omega
  go_enter Tryz.func25,Tryz.ntmps25
  go_wp2_with (go_at_call 50;refine (level_is 100 (Nat.le_refl _) [v] _ _ _ _ rfl (by simpa using HL.out _ ((Fr.refl w).alloc _)) HN.out).mono ?_;rintro e w1 ⟨⟨b1,rfl⟩,hf⟩;have HF1:=Lib.hid ((((Fr.refl w).alloc _).alloc _).trans hf);clear hf)
  go_ret
  exact ⟨by first | exact ⟨_,rfl⟩ | exact .inl rfl | exact .inr rfl,HF1.out⟩

theorem few7_is (v:JV) (B:Option Addr) (d:Nat) (B':Option Addr) (d':Nat) (w:World) (hv:InV w (Lo w.heap.size) v (vA v B d B' d')) (hn:Rd.nv v≤1048576) (most:Int) (hm0:0≤most) (hm1:most≤9000000000000000000):
  Calls Tryz.prog 8 #[.agg #[.int .i64 v.kd,.int .i64 v.nm,.string ⟨v.tx.toArray⟩,.slice B v.ls.length d,.slice B' v.ms.length d'],.int .i64 most] w fun e w'=>(∃ b:Bool,e=.returned (.bool b))∧Fr w w':=by
 have HKV:Hid (∀ W,Fr w W→InV W (Lo W.heap.size) v (vA v B d B' d')):=Lib.hid (fun W hW=>(hv.keep (Nat.le_refl _) hW).lo hW.size)
 have HBX:Hid (∀ W,Fr (w.alloc (.cells #[.int .i64 v.kd,.int .i64 v.nm,.string ⟨v.tx.toArray⟩,.slice B v.ls.length d,.slice B' v.ms.length d'] 25)) W→Blk W w.heap.size #[.int .i64 v.kd,.int .i64 v.nm,.string ⟨v.tx.toArray⟩,.slice B v.ls.length d,.slice B' v.ms.length d'] 25):=Lib.hid (fun W hW=>(Blk.made w _ _).keep hW)
 have HF0:Hid (Fr w (w.alloc (.cells #[.int .i64 v.kd,.int .i64 v.nm,.string ⟨v.tx.toArray⟩,.slice B v.ls.length d,.slice B' v.ms.length d'] 25))):=(Fr.refl w).alloc _
 have HD:Hid (∀ W,Fr w W→Calls Tryz.prog 25 #[.agg #[.int .i64 v.kd,.int .i64 v.nm,.string ⟨v.tx.toArray⟩,.slice B v.ls.length d,.slice B' v.ms.length d'],.int .i64 100] W fun e w'=>(∃ b:Bool,e=.returned (.bool b))∧Fr W w'):=fun W hW=>deep_is v B d B' d' W (HKV.out W hW) hn
 have HC:Hid (∀ W,Fr w W→Calls Tryz.prog 26 #[.agg #[.int .i64 v.kd,.int .i64 v.nm,.string ⟨v.tx.toArray⟩,.slice B v.ls.length d,.slice B' v.ms.length d'],.int .i64 most] W fun e w'=>(∃ z:Int,e=.returned (.int .i64 z)∧1≤z∧z≤(Rd.nv v:Nat))∧Fr W w'):=fun W hW=>count7_is v _ W (HKV.out W hW) hn most hm0 hm1
 have HO:Hid (∀ W,Fr w W→Calls Tryz.prog 27 #[.agg #[.int .i64 v.kd,.int .i64 v.nm,.string ⟨v.tx.toArray⟩,.slice B v.ls.length d,.slice B' v.ms.length d']] W fun e w'=>(∃ b:Bool,e=.returned (.bool b))∧Fr W w'):=fun W hW=>own7_is v _ W (HKV.out W hW)
 clear hv hn
 go_enter Tryz.func8,Tryz.ntmps8
 go_wp2_with (first
  | (go_at_call 27;have hm:=HF2.out;refine (HO.out _ (HF0.out.trans hm)).mono ?_;rintro e w3 ⟨⟨b3,rfl⟩,hf⟩;have HFF:=Lib.hid (hm.trans hf);clear hf hm)
  | (go_at_call 26;have hm:=HF1.out;refine (HC.out _ (HF0.out.trans hm)).mono ?_;rintro e w2 ⟨⟨z,rfl,hz1,hz2⟩,hf⟩;obtain ⟨⟨kb0,kb1,kb2,kb3,kb4⟩,_⟩:=box5 (HBX.out w2 (hm.trans hf));have HF2:=Lib.hid (hm.trans hf);have HFF:=Lib.hid (hm.trans hf);clear hf hm;rcases Int.lt_or_le most z with hzz | hzz)
  | (go_at_call 25;refine (HD.out _ HF0.out).mono ?_;rintro e w1 ⟨⟨b1,rfl⟩,hf⟩;obtain ⟨⟨ka0,ka1,ka2,ka3,ka4⟩,_⟩:=box5 (HBX.out w1 hf);have HF1:=Lib.hid hf;have HFF:=Lib.hid hf;clear hf;cases b1))
 all_goals
  go_ret
  exact ⟨by first | exact ⟨_,rfl⟩ | exact .inl rfl | exact .inr rfl,HF0.out.trans HFF.out⟩
/- The walks of the document's Get, Lead (cardboxref07, cardboxref08). -/

namespace Pt
end Pt

end Go.Proofs.YtdhakbghdcfncaaGreatDoor
