/- Plain mathematics: lower letters of four bytes, read as hexadecimal digits. -/
import Derived.Test.YtdhakbghdcfncaaGreatDoorPa
import Derived.Shelf.Strings.CaseAny
namespace Go.Proofs.YtdhakbghdcfncaaGreatDoor.Chr
set_option maxRecDepth 100000
set_option linter.unusedVariables false
set_option linter.unusedSimpArgs false
open Go.Lib

def lhex (c:UInt8):Option Nat:=if 48≤c.toNat∧c.toNat≤57 then some (c.toNat - 48) else if 97≤c.toNat∧c.toNat≤102 then some (c.toNat - 87) else none
def lhexs (n:Nat):List UInt8→Option Nat
 | []=>some n
 | c::l=>match lhex c with | some d=>lhexs (n*16+d) l | none=>none
theorem lhexs_bad:∀ {l:List UInt8} {n:Nat} {c:UInt8},c∈l→lhex c=none→lhexs n l=none
 | d::l,n,c,h,hc=>by
  unfold lhexs
  rcases List.mem_cons.1 h with rfl | h
  ·rw [hc]
  ·cases hd:lhex d with
   | none=>rfl
   | some x=>exact lhexs_bad h hc
theorem hexs_bad:∀ {l:List UInt8} {n:Nat} {c:UInt8},c∈l→hexv c=none→hexs n l=none
 | d::l,n,c,h,hc=>by
  unfold hexs
  rcases List.mem_cons.1 h with rfl | h
  ·rw [hc]
  ·cases hd:hexv d with
   | none=>rfl
   | some x=>exact hexs_bad h hc
theorem hexv_high {c:UInt8} (h:128≤c.toNat):hexv c=none:=by
 unfold hexv;rw [if_neg (by omega),if_neg (by omega),if_neg (by omega)]
theorem lhex_high {c:UInt8} (h:102<c.toNat):lhex c=none:=by
 unfold lhex;rw [if_neg (by omega),if_neg (by omega)]
theorem low_low:∀ i:Fin 128,lhex (lowerB (UInt8.ofNat i.val))=hexv (UInt8.ofNat i.val):=by decide +kernel

theorem lhexs_ascii:∀ (l:List UInt8) (n:Nat),(∀ b∈l,b.toNat<128)→lhexs n (toLowerA l)=hexs n l
 | [],n,_=>rfl
 | c::l,n,h=>by
  have hc:=h c (by simp)
  have h1:=low_low ⟨c.toNat,hc⟩
  simp at h1
  have e:toLowerA (c::l)=lowerB c::toLowerA l:=rfl
  rw [e]
  unfold lhexs hexs
  rw [h1]
  cases hexv c with
  | none=>rfl
  | some d=>exact lhexs_ascii l _ (fun b hb=>h b (by simp [hb]))

def rowHigh (x:CaseRow):Bool:=decide (x.2.1<128) || (decide (128≤x.1) && (decide (x.delta 1 > 1114111) || decide ((x.1:Int)+x.delta 1 > 102)))
set_option maxRecDepth 1000000 in
theorem rowsHigh:caseT.all rowHigh=true:=by decide +kernel
theorem caseA_high (i:Nat) (hi:i<caseA.size):rowHigh (caseA.getD i (0,0,0,0,0))=true:=by
 have hm:caseA.getD i (0,0,0,0,0)∈caseT:=by
  unfold caseA at hi ⊢
  simp only [List.size_toArray] at hi
  simp [Array.getD,hi]
 exact List.all_eq_true.1 rowsHigh _ hm
theorem lower_high (r:Int) (h0:128≤r) (h1:r≤1114111):102<toLowerU r:=by
 unfold toLowerU
 rw [if_neg (by omega)]
 unfold toR lookupGo
 cases hi:lookupIdx caseA r (caseA.size+1) 0 caseA.size with
 | none=>simp;omega
 | some i=>
  obtain ⟨hil,hlo,hhi⟩:=lookupIdx_some caseA r _ _ _ i hi
  have hr:=caseA_high i hil
  simp only [Option.map_some]
  generalize caseA.getD i (0,0,0,0,0)=y at hlo hhi hr ⊢
  simp only [rowHigh,Bool.or_eq_true,Bool.and_eq_true,decide_eq_true_eq] at hr
  unfold convertR
  split <;> omega
theorem encode_head (r:Int) (h:102<r):∃ b t,encodeRune r=b::t∧lhex b=none:=by
 have hz:∃ x t,encodeRuneZ r=x::t∧102<x∧x<256:=by
  by_cases h1:r≤127
  ·exact ⟨r,[],encodeRuneZ_one (by omega) h1,h,by omega⟩
  by_cases h2:r≤2047
  ·exact ⟨_,_,encodeRuneZ_two (by omega) h2,by omega,by omega⟩
  by_cases h3:r<55296∨(57343<r∧r≤65535)
  ·exact ⟨_,_,encodeRuneZ_three (by omega),by omega,by omega⟩
  by_cases h4:65536≤r∧r≤1114111
  ·exact ⟨_,_,encodeRuneZ_four h4.1 h4.2,by omega,by omega⟩
  ·exact ⟨_,_,encodeRuneZ_bad (by omega),by omega,by omega⟩
 obtain ⟨x,t,e,hx,hx2⟩:=hz
 refine ⟨x.toNat.toUInt8,_,by unfold encodeRune;rw [e,List.map_cons],lhex_high ?_⟩
 simp [UInt8.toNat_ofNat']
 omega
theorem encode_high (r:Int) (h:102<r):∃ b∈encodeRune r,lhex b=none:=by
 obtain ⟨b,t,e,hb⟩:=encode_head r h
 exact ⟨b,by rw [e];simp,hb⟩
def lrun:List UInt8→Nat
 | []=>0
 | c::l=>if (lhex c).isSome then lrun l+1 else 0
theorem decode_high (b:UInt8) (t:List UInt8) (h:128≤b.toNat):128≤(decodeL (b::t)).1:=by
 unfold decodeL Utf8.decode
 have e:((⟨(b::t).toArray⟩:ByteArray).get! (0+0))=b:=rfl
 simp only [e]
 rw [if_neg (by omega)]
 unfold Utf8.runeError
 repeat' split
 all_goals simp only [Bool.and_eq_true,decide_eq_true_eq,ge_iff_le] at *
 all_goals omega
theorem lowerD_high:∀ (n:Nat) (l:List UInt8),l.length≤n→(∃ b∈l,128≤b.toNat) → ∃ b∈toLowerD l,lhex b=none
 | 0,l,hn,h=>by
  obtain rfl:l=[]:=List.eq_nil_of_length_eq_zero (by omega)
  simp at h
 | n+1,[],hn,h=>by simp at h
 | n+1,b::t,hn,h=>by
  have hs:=mapD_step toLowerU (b::t) (by simp)
  have hd:toLowerD (b::t)=mapD toLowerU (b::t):=rfl
  by_cases hb:b.toNat<128
  ·obtain ⟨c,hc,hc8⟩:=h
   have hct:c∈t:=by
    rcases List.mem_cons.1 hc with rfl | hc
    ·omega
    ·exact hc
   rw [decodeL_ascii b t hb] at hs
   simp only [List.drop_succ_cons,List.drop_zero] at hs
   obtain ⟨x,hx,hx2⟩:=lowerD_high n t (by simpa using hn) ⟨c,hct,hc8⟩
   refine ⟨x,?_,hx2⟩
   rw [hd,hs,List.mem_append]
   exact .inr hx
  ·have h1:=decode_high b t (by omega)
   have h2:=decodeL_rune (b::t)
   have h3:=lower_high ((decodeL (b::t)).1:Int) (by omega) (by omega)
   obtain ⟨x,hx,hx2⟩:=encode_high _ h3
   refine ⟨x,?_,hx2⟩
   rw [hd,hs,List.mem_append,if_pos (by omega)]
   exact .inl hx
theorem lrun_lower:∀ (n:Nat) (l:List UInt8),l.length≤n→lrun (toLowerD l)≤l.length
 | n,[],_=>by simp [toLowerD,mapD,mapGoD,lrun]
 | 0,b::t,hn=>by simp at hn
 | n+1,b::t,hn=>by
  have hs:=mapD_step toLowerU (b::t) (by simp)
  have hd:toLowerD (b::t)=mapD toLowerU (b::t):=rfl
  by_cases hb:b.toNat<128
  ·rw [decodeL_ascii b t hb] at hs
   simp only [List.drop_succ_cons,List.drop_zero] at hs
   have h1:=lrun_lower n t (by simpa using hn)
   have e:toLowerD (b::t)=encodeRune (toLowerU b.toNat)++toLowerD t:=by
    rw [hd,hs,if_pos (toLowerU_range b.toNat (by omega)).1];rfl
   rw [e,lower_byte ⟨b.toNat,hb⟩]
   simp only [List.cons_append,List.nil_append,lrun,List.length_cons]
   split <;> omega
  ·have h1:=decode_high b t (by omega)
   have h2:=decodeL_rune (b::t)
   have h3:=lower_high ((decodeL (b::t)).1:Int) (by omega) (by omega)
   obtain ⟨x,u,e,hx2⟩:=encode_head _ h3
   rw [hd,hs,if_pos (by omega),e]
   simp [lrun,hx2]
theorem lrun_some {c:UInt8} {l:List UInt8} {d:Nat} (h:lhex c=some d):lrun (c::l)=lrun l+1:=by simp [lrun,h]
theorem lhex_lt {c:UInt8} {d:Nat} (h:lhex c=some d):d<16:=by
 unfold lhex at h;repeat' split at h
 all_goals simp at h;try omega
theorem idx_all:∀ i:Fin 256,Lib.indexByte [48,49,50,51,52,53,54,55,56,57,97,98,99,100,101,102] (UInt8.ofNat i.val)=(lhex (UInt8.ofNat i.val)).elim (-1) (fun d=>(d:Int)):=by decide +kernel
theorem idx_dig (c:UInt8):Lib.indexByte [48,49,50,51,52,53,54,55,56,57,97,98,99,100,101,102] c=(lhex c).elim (-1) (fun d=>(d:Int)):=by
 have h:=idx_all ⟨c.toNat,c.toNat_lt⟩
 simpa using h
structure LInv (L:List UInt8) (j n:Nat):Prop where
 le:j≤L.length
 run:j+lrun (L.drop j)≤4
 eq:lhexs 0 L=lhexs n (L.drop j)
 b0:j=0→n=0
 b1:j=1→n<16
 b2:j=2→n<256
 b3:j=3→n<4096
 b4:j=4→n<65536
theorem LInv.start {L:List UInt8} (h:lrun L≤4):LInv L 0 0:=⟨by omega,by simpa using h,by simp,by omega,by omega,by omega,by omega,by omega⟩
theorem LInv.bad {L:List UInt8} {j n:Nat} (h:LInv L j n) (hj:j<L.length) (hx:lhex L[j]=none):lhexs 0 L=none:=by
 rw [h.eq,Nm.drop_cons L j hj];unfold lhexs;rw [hx]
theorem LInv.step {L:List UInt8} {j n d:Nat} (h:LInv L j n) (hj:j<L.length) (hx:lhex L[j]=some d):LInv L (j+1) (n*16+d):=by
 have hr:=h.run
 have hd:=lhex_lt hx
 rw [Nm.drop_cons L j hj,lrun_some hx] at hr
 have:=h.b0;have:=h.b1;have:=h.b2;have:=h.b3
 refine ⟨by omega,by omega,?_,by omega,by omega,by omega,by omega,by omega⟩
 rw [h.eq,Nm.drop_cons L j hj]
 conv=>lhs;unfold lhexs
 rw [hx]
theorem LInv.small {L:List UInt8} {j n d:Nat} (h:LInv L j n) (hj:j<L.length) (hx:lhex L[j]=some d):n<4096∧d<16:=by
 have hr:=h.run
 rw [Nm.drop_cons L j hj,lrun_some hx] at hr
 have:=h.b0;have:=h.b1;have:=h.b2;have:=h.b3
 exact ⟨by omega,lhex_lt hx⟩
theorem LInv.stop {L:List UInt8} {j n:Nat} (h:LInv L j n) (hj:¬ j<L.length):lhexs 0 L=some n:=by
 rw [h.eq,List.drop_of_length_le (by omega)];rfl

theorem lhexs_lower (l:List UInt8) (n:Nat):lhexs n (toLowerD l)=hexs n l:=by
 by_cases h:∀ b∈l,b.toNat<128
 ·rw [toLowerD_ascii l h,lhexs_ascii l n h]
 ·have h2:∃ b∈l,128≤b.toNat:=by
   refine Classical.byContradiction fun hn=>h fun b hb=>Classical.byContradiction fun hb2=>hn ⟨b,hb,by omega⟩
  obtain ⟨x,hx,hx2⟩:=lowerD_high _ l (Nat.le_refl _) h2
  obtain ⟨b,hb,hb8⟩:=h2
  rw [lhexs_bad hx hx2,hexs_bad hb (hexv_high hb8)]

theorem unitv_at {l:List UInt8} {k:Nat} (h:k+6≤l.length):unitv (l.drop k)=if l.getD k 0=92∧l.getD (k+1) 0=117 then hexs 0 ((l.drop (k+2)).take 4) else none:=by
 have e:l.drop k=l.getD k 0::l.getD (k+1) 0::(l.drop (k+2)):=by
  rw [Nm.drop_cons l k (by omega),Nm.drop_cons l (k+1) (by omega)]
  simp [List.getD_eq_getElem?_getD,List.getElem?_eq_getElem (show k<l.length by omega),List.getElem?_eq_getElem (show k+1<l.length by omega)]
 rw [e,Nm.drop_cons l (k+2) (by omega),Nm.drop_cons l (k+3) (by omega),Nm.drop_cons l (k+4) (by omega),Nm.drop_cons l (k+5) (by omega)]
 rfl
theorem unitv_short {l:List UInt8} {k:Nat} (h:l.length<k+6):unitv (l.drop k)=none:=by
 cases hu:unitv (l.drop k) with
 | none=>rfl
 | some a=>have:=unitv_len hu;simp at this;omega

end Go.Proofs.YtdhakbghdcfncaaGreatDoor.Chr
