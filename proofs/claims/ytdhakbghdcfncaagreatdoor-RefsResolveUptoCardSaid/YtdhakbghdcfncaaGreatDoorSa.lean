/- Walks of the document's tokens: White, part, word. -/
import Derived.Test.YtdhakbghdcfncaaGreatDoorPa
import Derived.Test.YtdhakbghdcfncaaGreatDoorKa
import Derived.Test.YtdhakbghdcfncaaGreatDoorRa
namespace Go.Proofs.YtdhakbghdcfncaaGreatDoor
set_option maxRecDepth 100000
set_option linter.unusedVariables false
set_option linter.unusedSimpArgs false
open Go.RowKit

theorem u8q {c:UInt8} {d:Nat} (hd:d<256) (h:c≠UInt8.ofNat d):((c.toNat:Int) == (d:Int))=false:=by
 rw [beq_eq_false_iff_ne]
 intro he
 apply h
 apply UInt8.toNat_inj.1
 simp
 omega

theorem part_yes {c:UInt8} (h:97≤c.toNat∧c.toNat≤122∨65≤c.toNat∧c.toNat≤90∨48≤c.toNat∧c.toNat≤57∨c.toNat=95):Scn.part c=true:=by
 have h95:c.toNat=95→c=95:=fun h=>UInt8.toNat_inj.1 h
 simp only [Scn.part,Bool.or_eq_true,Bool.and_eq_true,decide_eq_true_eq,beq_iff_eq]
 rcases h with h | h | h | h
 ·exact .inl (.inl (.inl h))
 ·exact .inl (.inl (.inr h))
 ·exact .inl (.inr h)
 ·exact .inr (h95 h)
theorem part_no {c:UInt8} (h:¬ (97≤c.toNat∧c.toNat≤122∨65≤c.toNat∧c.toNat≤90∨48≤c.toNat∧c.toNat≤57∨c.toNat=95)):Scn.part c=false:=by
 cases hp:Scn.part c with
 | false=>rfl
 | true=>
  exfalso;apply h
  simp only [Scn.part,Bool.or_eq_true,Bool.and_eq_true,decide_eq_true_eq,beq_iff_eq] at hp
  rcases hp with ((hp | hp) | hp) | hp
  ·exact .inl hp
  ·exact .inr (.inl hp)
  ·exact .inr (.inr (.inl hp))
  ·subst hp;exact .inr (.inr (.inr rfl))

def wdAt:Nat→List UInt8
 | 0=>Scn.wTrue
 | 1=>Scn.wFalse
 | _=>Scn.wNull
theorem wd_len (i:Nat):4≤(wdAt i).length∧(wdAt i).length≤5:=by
 unfold wdAt;split <;> simp [Scn.wTrue,Scn.wFalse,Scn.wNull]
theorem word_at {d:List UInt8} {i:Nat} (hi:i<3) (hb:∀ j,j<i→Scn.pre (wdAt j) d=false) (h:Scn.pre (wdAt i) d=true):Scn.wordLen d=(wdAt i).length:=by
 unfold Scn.wordLen
 rcases (by omega:i=0∨i=1∨i=2) with rfl | rfl | rfl
 ·rw [if_pos (show Scn.pre Scn.wTrue d=true from h)];rfl
 ·have h0:=hb 0 (by omega)
  rw [if_neg (by show ¬ Scn.pre (wdAt 0) d=true;rw [h0];simp),if_pos (show Scn.pre Scn.wFalse d=true from h)];rfl
 ·have h0:=hb 0 (by omega)
  have h1:=hb 1 (by omega)
  rw [if_neg (by show ¬ Scn.pre (wdAt 0) d=true;rw [h0];simp),if_neg (by show ¬ Scn.pre (wdAt 1) d=true;rw [h1];simp),if_pos (show Scn.pre Scn.wNull d=true from h)];rfl
theorem word_none {d:List UInt8} (hb:∀ j,j<3→Scn.pre (wdAt j) d=false):Scn.wordLen d=0:=by
 unfold Scn.wordLen
 have h0:=hb 0 (by omega)
 have h1:=hb 1 (by omega)
 have h2:=hb 2 (by omega)
 rw [if_neg (by show ¬ Scn.pre (wdAt 0) d=true;rw [h0];simp),if_neg (by show ¬ Scn.pre (wdAt 1) d=true;rw [h1];simp),if_neg (by show ¬ Scn.pre (wdAt 2) d=true;rw [h2];simp)]

theorem pre_cases (s:ByteArray) (k:Nat) (W:List UInt8) (hk:k≤s.size):
  (s.size<k+W.length∧Scn.pre W (s.data.toList.drop k)=false) ∨
  (k+W.length≤s.size∧s.extract k (k+W.length)≠⟨W.toArray⟩∧Scn.pre W (s.data.toList.drop k)=false) ∨
  (k+W.length≤s.size∧s.extract k (k+W.length)=⟨W.toArray⟩∧s.size=k+W.length∧Scn.pre W (s.data.toList.drop k)=true) ∨
  (s.extract k (k+W.length)=⟨W.toArray⟩ ∧ ∃ (h:k+W.length<s.size) (c:UInt8),s[k+W.length]=c∧Scn.pre W (s.data.toList.drop k) = !Scn.part c):=by
 have hx:=extract_list s k (k+W.length)
 rw [show k+W.length - k=W.length by omega] at hx
 have hl:s.data.toList.length=s.size:=by simp
 by_cases h1:s.size<k+W.length
 ·left
  refine ⟨h1,?_⟩
  cases hp:Scn.pre W (s.data.toList.drop k) with
  | false=>rfl
  | true=>have:=Scn.pre_len hp;rw [List.length_drop,hl] at this;omega
 right
 have h2:k+W.length≤s.size:=by omega
 by_cases h3:s.extract k (k+W.length)=⟨W.toArray⟩
 ·have ht:(s.data.toList.drop k).take W.length=W:=by rw [← hx,h3]
  right
  by_cases h4:s.size=k+W.length
  ·left
   refine ⟨h2,h3,h4,?_⟩
   simp only [Scn.pre,ht,List.length_drop,hl,beq_self_eq_true,Bool.true_and,Bool.or_eq_true]
   left;rw [beq_iff_eq];omega
  ·right
   have h5:k+W.length<s.size:=by omega
   refine ⟨h3,h5,_,rfl,?_⟩
   have hg:(s.data.toList.drop k).getD W.length 0=s[k+W.length]:=by
    rw [List.getD_eq_getElem?_getD,List.getElem?_drop,List.getElem?_eq_getElem (by rw [hl];exact h5)]
    rfl
   unfold Scn.pre
   rw [ht,hg,List.length_drop,hl]
   have e1:(W == W)=true:=by simp
   have e2:(s.size - k == W.length)=false:=by rw [beq_eq_false_iff_ne];omega
   rw [e1,e2];rfl
 ·left
  refine ⟨h2,h3,?_⟩
  cases hp:Scn.pre W (s.data.toList.drop k) with
  | false=>rfl
  | true=>
   exfalso;apply h3
   simp only [Scn.pre,Bool.and_eq_true,beq_iff_eq] at hp
   apply bytes_eq
   rw [hx,hp.1]
/- The walk of the document's word. -/

def wdV (i:Nat):ByteArray:=⟨(wdAt i).toArray⟩
theorem wdV_size (i:Nat):(wdV i).size=(wdAt i).length:=by simp [wdV,ByteArray.size]
theorem bl_ne {a b:ByteArray} (h:a≠b):(a.toList == b.toList)=false:=by
 rw [beq_eq_false_iff_ne];intro h2;exact h (bytes_eq (by rw [← ByteArray.toList_eq,← ByteArray.toList_eq];exact h2))
theorem bl_eq {a b:ByteArray} (h:a=b):(a.toList == b.toList)=true:=by rw [h];simp

end Go.Proofs.YtdhakbghdcfncaaGreatDoor
