/- Walks of the document's tokens: White, part, word. -/
import Derived.Test.YtockgemmkjdnkaaGreatDoorPa
import Derived.Test.YtockgemmkjdnkaaGreatDoorKa
import Derived.Test.YtockgemmkjdnkaaGreatDoorRa
set_option maxRecDepth 100000
set_option maxHeartbeats 4000000
set_option linter.unusedVariables false
set_option linter.unusedSimpArgs false
namespace Go.Proofs.YtockgemmkjdnkaaGreatDoor
open Go.RowKit

theorem u8q {c:UInt8} {d:Nat} (hd:d<256) (h:c≠UInt8.ofNat d):((c.toNat:Int) == (d:Int))=false:=by
 rw [beq_eq_false_iff_ne];intro he;apply h
 apply UInt8.toNat_inj.1
 simp
 omega

theorem rwhite_is (c:UInt8) (w:World):
  Calls Tryz.prog 69 #[.int .u8 c.toNat] w λe w'=>e=.returned (.bool (Scn.white c))/\w=w':=by
 by_cases h1:c=32
 ·subst h1;go_enter Tryz.func69,Tryz.ntmps69
  go_wp2_with fail
  go_ret
  exact ⟨rfl,rfl⟩
 by_cases h2:c=9
 ·subst h2;go_enter Tryz.func69,Tryz.ntmps69
  go_wp2_with fail
  go_ret
  exact ⟨rfl,rfl⟩
 by_cases h3:c=10
 ·subst h3;go_enter Tryz.func69,Tryz.ntmps69
  go_wp2_with fail
  go_ret
  exact ⟨rfl,rfl⟩
 by_cases h4:c=13
 ·subst h4;go_enter Tryz.func69,Tryz.ntmps69
  go_wp2_with fail
  go_ret
  exact ⟨rfl,rfl⟩
 have hw:Scn.white c=false:=by simp [Scn.white,h1,h2,h3,h4]
 have HW:=LH hw;clear hw;have e1:((c.toNat:Int) == 32)=false:=u8q (d:=32) (by omega) h1;have e2:((c.toNat:Int) == 9)=false:=u8q (d:=9) (by omega) h2;have e3:((c.toNat:Int) == 10)=false:=u8q (d:=10) (by omega) h3;have e4:((c.toNat:Int) == 13)=false:=u8q (d:=13) (by omega) h4;clear h1 h2 h3 h4;go_enter Tryz.func69,Tryz.ntmps69
 go_wp2_with fail
 go_ret
 exact ⟨by rw [HW.out];rfl,rfl⟩

theorem part_yes {c:UInt8} (h:97<=c.toNat/\c.toNat<=122\/65<=c.toNat/\c.toNat<=90\/48<=c.toNat/\c.toNat<=57\/c.toNat=95):Scn.part c=true:=by
 have h95:c.toNat=95->c=95:=λh=>UInt8.toNat_inj.1 h
 simp only [Scn.part,Bool.or_eq_true,Bool.and_eq_true,decide_eq_true_eq,beq_iff_eq];rcases h with h | h | h | h
 ·exact .inl (.inl (.inl h))
 ·exact .inl (.inl (.inr h))
 ·exact .inl (.inr h)
 ·exact .inr (h95 h)
theorem part_no {c:UInt8} (h:¬ (97<=c.toNat/\c.toNat<=122\/65<=c.toNat/\c.toNat<=90\/48<=c.toNat/\c.toNat<=57\/c.toNat=95)):Scn.part c=false:=by
 cases hp:Scn.part c with
 | false=>rfl
 | true=>
  exfalso;apply h
  simp only [Scn.part,Bool.or_eq_true,Bool.and_eq_true,decide_eq_true_eq,beq_iff_eq] at hp;rcases hp with ((hp | hp) | hp) | hp
  ·exact .inl hp
  ·exact .inr (.inl hp)
  ·exact .inr (.inr (.inl hp))
  ·subst hp;exact .inr (.inr (.inr rfl))

theorem rpart_is (c:UInt8) (b:Bool) (w:World) (hb:Scn.part c=b):
  Calls Tryz.prog 90 #[.int .u8 c.toNat] w λe w'=>e=.returned (.bool b)/\w=w':=by
 subst hb;obtain ⟨n,hn⟩:∃ n,c.toNat=n:=⟨_,rfl⟩;have hy:=@part_yes c;have hz:=@part_no c;rw [hn] at hy hz ⊢;obtain ⟨p,hp⟩:∃ p,Scn.part c=p:=⟨_,rfl⟩;rw [hp] at hy hz ⊢;clear hp hn;by_cases hyes:97<=n/\n<=122\/65<=n/\n<=90\/48<=n/\n<=57\/n=95
 ·obtain rfl:=hy hyes;clear hy hz;rcases hyes with h | h | h | h;all_goals
   first
   | (have q1:decide ((97:Int)<=(n:Int))=true:=dT (by omega))
   | (have q1:decide ((97:Int)<=(n:Int))=false:=dF (by omega))
   first
   | (have q2:decide ((n:Int)<=122)=true:=dT (by omega))
   | (have q2:decide ((n:Int)<=122)=false:=dF (by omega))
   first
   | (have q3:decide ((65:Int)<=(n:Int))=true:=dT (by omega))
   | (have q3:decide ((65:Int)<=(n:Int))=false:=dF (by omega))
   first
   | (have q4:decide ((n:Int)<=90)=true:=dT (by omega))
   | (have q4:decide ((n:Int)<=90)=false:=dF (by omega))
   first
   | (have q5:decide ((48:Int)<=(n:Int))=true:=dT (by omega))
   | (have q5:decide ((48:Int)<=(n:Int))=false:=dF (by omega))
   first
   | (have q6:decide ((n:Int)<=57)=true:=dT (by omega))
   | (have q6:decide ((n:Int)<=57)=false:=dF (by omega))
   first
   | (have q7:((n:Int) == 95)=true:=by rw [beq_iff_eq];omega)
   | (have q7:((n:Int) == 95)=false:=by rw [beq_eq_false_iff_ne];omega)
   clear h;go_enter Tryz.func90,Tryz.ntmps90
   go_wp2_with fail
   go_ret
   exact ⟨rfl,rfl⟩
 ·obtain rfl:=hz hyes;clear hy hz;rcases (by omega:n<48\/(57<n/\n<65)\/(90<n/\n<97/\n≠95)\/122<n) with h | h | h | h;all_goals
   clear hyes
   first
   | (have q1:decide ((97:Int)<=(n:Int))=true:=dT (by omega))
   | (have q1:decide ((97:Int)<=(n:Int))=false:=dF (by omega))
   first
   | (have q2:decide ((n:Int)<=122)=true:=dT (by omega))
   | (have q2:decide ((n:Int)<=122)=false:=dF (by omega))
   first
   | (have q3:decide ((65:Int)<=(n:Int))=true:=dT (by omega))
   | (have q3:decide ((65:Int)<=(n:Int))=false:=dF (by omega))
   first
   | (have q4:decide ((n:Int)<=90)=true:=dT (by omega))
   | (have q4:decide ((n:Int)<=90)=false:=dF (by omega))
   first
   | (have q5:decide ((48:Int)<=(n:Int))=true:=dT (by omega))
   | (have q5:decide ((48:Int)<=(n:Int))=false:=dF (by omega))
   first
   | (have q6:decide ((n:Int)<=57)=true:=dT (by omega))
   | (have q6:decide ((n:Int)<=57)=false:=dF (by omega))
   first
   | (have q7:((n:Int) == 95)=true:=by rw [beq_iff_eq];omega)
   | (have q7:((n:Int) == 95)=false:=by rw [beq_eq_false_iff_ne];omega)
   clear h;go_enter Tryz.func90,Tryz.ntmps90
   go_wp2_with fail
   go_ret
   exact ⟨rfl,rfl⟩

def wdAt:Nat->List UInt8
 | 0=>Scn.wTrue
 | 1=>Scn.wFalse
 | _=>Scn.wNull
theorem wd_len (i:Nat):4<=(wdAt i).length/\(wdAt i).length<=5:=by
 unfold wdAt;split <;> simp [Scn.wTrue,Scn.wFalse,Scn.wNull]
theorem word_at {d:List UInt8} {i:Nat} (hi:i<3) (hb:∀ j,j<i->Scn.pre (wdAt j) d=false) (h:Scn.pre (wdAt i) d=true):Scn.wordLen d=(wdAt i).length:=by
 unfold Scn.wordLen;rcases (by omega:i=0\/i=1\/i=2) with rfl | rfl | rfl
 ·rw [if_pos (show Scn.pre Scn.wTrue d=true from h)];rfl
 ·have h0:=hb 0 (by omega);rw [if_neg (by show ¬ Scn.pre (wdAt 0) d=true;rw [h0];simp),if_pos (show Scn.pre Scn.wFalse d=true from h)];rfl
 ·have h0:=hb 0 (by omega);have h1:=hb 1 (by omega);rw [if_neg (by show ¬ Scn.pre (wdAt 0) d=true;rw [h0];simp),if_neg (by show ¬ Scn.pre (wdAt 1) d=true;rw [h1];simp),if_pos (show Scn.pre Scn.wNull d=true from h)];rfl
theorem word_none {d:List UInt8} (hb:∀ j,j<3->Scn.pre (wdAt j) d=false):Scn.wordLen d=0:=by
 unfold Scn.wordLen;have h0:=hb 0 (by omega);have h1:=hb 1 (by omega);have h2:=hb 2 (by omega);rw [if_neg (by show ¬ Scn.pre (wdAt 0) d=true;rw [h0];simp),if_neg (by show ¬ Scn.pre (wdAt 1) d=true;rw [h1];simp),if_neg (by show ¬ Scn.pre (wdAt 2) d=true;rw [h2];simp)]

theorem pre_cases (s:ByteArray) (k:Nat) (W:List UInt8) (hk:k<=s.size):
  (s.size<k+W.length/\Scn.pre W (s.data.toList.drop k)=false) \/
  (k+W.length<=s.size/\s.extract k (k+W.length)≠⟨W.toArray⟩/\Scn.pre W (s.data.toList.drop k)=false) \/
  (k+W.length<=s.size/\s.extract k (k+W.length)=⟨W.toArray⟩/\s.size=k+W.length/\Scn.pre W (s.data.toList.drop k)=true) \/
  (s.extract k (k+W.length)=⟨W.toArray⟩ /\ ∃ (h:k+W.length<s.size) (c:UInt8),s[k+W.length]=c/\Scn.pre W (s.data.toList.drop k) = !Scn.part c):=by
 have hx:=extract_list s k (k+W.length);rw [show k+W.length - k=W.length by omega] at hx;have hl:s.data.toList.length=s.size:=by simp
 by_cases h1:s.size<k+W.length
 ·left;refine ⟨h1,?_⟩
  cases hp:Scn.pre W (s.data.toList.drop k) with
  | false=>rfl
  | true=>have:=Scn.pre_len hp;rw [List.length_drop,hl] at this;omega
 right;have h2:k+W.length<=s.size:=by omega
 by_cases h3:s.extract k (k+W.length)=⟨W.toArray⟩
 ·have ht:(s.data.toList.drop k).take W.length=W:=by rw [<- hx,h3]
  right;by_cases h4:s.size=k+W.length
  ·left;refine ⟨h2,h3,h4,?_⟩;simp only [Scn.pre,ht,List.length_drop,hl,beq_self_eq_true,Bool.true_and,Bool.or_eq_true];left;rw [beq_iff_eq];omega
  ·right;have h5:k+W.length<s.size:=by omega
   refine ⟨h3,h5,_,rfl,?_⟩;have hg:(s.data.toList.drop k).getD W.length 0=s[k+W.length]:=by
    rw [List.getD_eq_getElem?_getD,List.getElem?_drop,List.getElem?_eq_getElem (by rw [hl];exact h5)];rfl
   unfold Scn.pre;rw [ht,hg,List.length_drop,hl];have e1:(W == W)=true:=by simp
   have e2:(s.size - k == W.length)=false:=by rw [beq_eq_false_iff_ne];omega
   rw [e1,e2];rfl
 ·left;refine ⟨h2,h3,?_⟩
  cases hp:Scn.pre W (s.data.toList.drop k) with
  | false=>rfl
  | true=>
   exfalso;apply h3
   simp only [Scn.pre,Bool.and_eq_true,beq_iff_eq] at hp;apply bytes_eq
   rw [hx,hp.1]
/- The walk of the document's word. -/

def wdV (i:Nat):ByteArray:=⟨(wdAt i).toArray⟩
theorem wdV_size (i:Nat):(wdV i).size=(wdAt i).length:=by simp [wdV,ByteArray.size]
theorem bl_ne {a b:ByteArray} (h:a≠b):(a.toList == b.toList)=false:=by
 rw [beq_eq_false_iff_ne];intro h2;exact h (bytes_eq (by rw [<- ByteArray.toList_eq,<- ByteArray.toList_eq];exact h2))
theorem bl_eq {a b:ByteArray} (h:a=b):(a.toList == b.toList)=true:=by rw [h];simp

theorem rword_is (s:ByteArray) (k:Nat) (w:World) (hs:s.size<=maxLen) (hk:k<=s.size):
  Calls Tryz.prog 72 #[.string s,.int .i64 k] w λe w'=>e=.returned (.int .i64 (Scn.wordLen (s.data.toList.drop k):Nat))/\Fr w w':=by
 unfold maxLen at hs;go_enter Tryz.func72,Tryz.ntmps72
 go_wp2_with fail
 go_loopw [6] (λj wr=>∃ i:Nat,i<=3/\j=.int .i64 i/\Hid (∀ q,q<3->wr.cell? ⟨w.heap.size,q,none⟩=some (.string (wdV q)))/\Hid (Fr w wr)/\Hid (∀ q,q<i->Scn.pre (wdAt q) (s.data.toList.drop k)=false)) (λj _=>3 - (intOf j).toNat)
 case atStart=>
  refine ⟨0,by omega,rfl,LH ?_,LH ((FR _).alloc _),LH (λq hq=>absurd hq (by omega))⟩;intro q hq;rw [World.cell?_alloc_at _ _ _ _ rfl];rcases (by omega:q=0\/q=1\/q=2) with rfl | rfl | rfl <;> rfl
 case round=>
  obtain ⟨i,hi,rfl,hc,hfr,hno⟩:=hrel;by_cases h3:i<3
  ·have hcell:=hc.out i h3;have h3':(i:Int)<3:=by omega
   obtain ⟨n,hn⟩:∃ n,(wdV i).size=n:=⟨_,rfl⟩;have hnl:=wdV_size i;rw [hn] at hnl;have hnb:=wd_len i;rw [<- hnl] at hnb;have hp:=pre_cases s k (wdAt i) hk;rw [<- hnl] at hp;have HN:=LH hnl;clear hnl;obtain ⟨W,hW⟩:∃ W,wdV i=W:=⟨_,rfl⟩;rw [hW] at hcell hn;have hp':∀ a:ByteArray,a=⟨(wdAt i).toArray⟩↔a=W:=λa=>by rw [<- hW];rfl
   simp only [ne_eq,hp'] at hp;clear hp' hW;have hnext:Scn.pre (wdAt i) (s.data.toList.drop k)=false->Hid (∀ q,q<i+1->Scn.pre (wdAt q) (s.data.toList.drop k)=false):=by
    intro h2 q hq;by_cases hqi:q<i
    ·exact hno.out q hqi
    ·obtain rfl:q=i:=by omega
     exact h2
   have hfin:Scn.pre (wdAt i) (s.data.toList.drop k)=true->Hid (Scn.wordLen (s.data.toList.drop k)=n):=by
    intro h2;show _=_;rw [word_at h3 hno.out h2,HN.out]
   rcases hp with ⟨h1,h2⟩ | ⟨h1,h2,h4⟩ | ⟨h1,h2,h4,h5⟩ | ⟨h2,h1,c,h4,h5⟩
   ·have q1:decide ((n:Int)<=(s.size:Int) - (k:Int))=false:=dF (by omega);have hno':=hnext h2;clear h1 h2 hnext hfin;go_wp2_with fail
    go_quiet (fail)
    go_wp2_with fail
    exact ⟨⟨i+1,by omega,by go_num,LH (λq hq=>hc.out q hq),LH (hfr.out.drewN _),hno'⟩,by simp [intOf];omega⟩
   ·have q1:decide ((n:Int)<=(s.size:Int) - (k:Int))=true:=dT (by omega);have q2:=bl_ne h2;have hno':=hnext h4;clear h2 h4 hnext hfin;go_wp2_with fail
    go_quiet (fail)
    go_wp2_with fail
    exact ⟨⟨i+1,by omega,by go_num,LH (λq hq=>hc.out q hq),LH (hfr.out.drewN _),hno'⟩,by simp [intOf];omega⟩
   ·have q1:decide ((n:Int)<=(s.size:Int) - (k:Int))=true:=dT (by omega);have q2:=bl_eq h2;have q3:((s.size:Int) - (k:Int) == (n:Int))=true:=by rw [beq_iff_eq];omega
    have hr:=hfin h5;clear h2 h4 hnext hfin;go_wp2_with fail
    go_quiet (fail)
    go_wp2_with fail
    go_ret
    exact ⟨by rw [hr.out];rfl,hfr.out.drewN _⟩
   ·have q1:decide ((n:Int)<=(s.size:Int) - (k:Int))=true:=dT (by omega);have q2:=bl_eq h2;have q3:((s.size:Int) - (k:Int) == (n:Int))=false:=by rw [beq_eq_false_iff_ne];omega
    have q4:decide (s.size<=k+n)=false:=dF (by omega);have w1:IntKind.i64.wrap ((s.size:Int) - (k:Int))=(s.size:Int) - (k:Int):=by rw [IntKind.wrap_i64];omega
    have w2:IntKind.i64.wrap ((k:Int)+(n:Int))=(k:Int)+(n:Int):=by rw [IntKind.wrap_i64];omega
    have b1:(k:Int)+(n:Int)<=(s.size:Int):=by omega
    have b2:(k:Int)<=(k:Int)+(n:Int):=by omega
    have b3:(0:Int)<=(k:Int)+(n:Int):=by omega
    have b4:(k:Int)+(n:Int)<(s.size:Int):=by omega
    obtain ⟨b,hb⟩:∃ b,Scn.part c=b:=⟨_,rfl⟩;rw [hb] at h5;have HB:=LH hb;clear h2 hb;rcases b with _ | _
    ·have hr:=hfin h5;clear hnext hfin;go_wp2_with fail
     go_quiet ((go_at_call 90;exact Calls.quiet_of_same ((rpart_is c false _ HB.out).mono λ_ _ h=>⟨h.1,h.2.symm⟩)))
     go_wp2_with fail
     go_ret
     exact ⟨by rw [hr.out];rfl,hfr.out.drewN _⟩
    ·have hno':=hnext h5;clear hnext hfin;go_wp2_with fail
     go_quiet ((go_at_call 90;exact Calls.quiet_of_same ((rpart_is c true _ HB.out).mono λ_ _ h=>⟨h.1,h.2.symm⟩)))
     go_wp2_with fail
     exact ⟨⟨i+1,by omega,by go_num,LH (λq hq=>hc.out q hq),LH (hfr.out.drewN _),hno'⟩,by simp [intOf];omega⟩
  ·obtain rfl:i=3:=by omega
   have hr:=LH (word_none hno.out);go_wp2_with fail
   go_ret
   exact ⟨by rw [hr.out];rfl,hfr.out⟩
end Go.Proofs.YtockgemmkjdnkaaGreatDoor
