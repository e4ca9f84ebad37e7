/- Walks of the document's texts between quotes: Unit, Escape. -/
import Derived.Test.YtockgemmkjdnkaaGreatDoorUb
import Derived.Test.YtockgemmkjdnkaaGreatDoorLowP
import Derived.Test.YtockgemmkjdnkaaGreatDoorUa
set_option maxRecDepth 100000
set_option maxHeartbeats 4000000
set_option linter.unusedVariables false
set_option linter.unusedSimpArgs false
namespace Go.Proofs.YtockgemmkjdnkaaGreatDoor
open Go.RowKit

theorem getD_atR {s:ByteArray} {k:Nat} (h:k<s.size):s.data.toList.getD k 0=s[k]:=by
 have h2:k<s.data.toList.length:=by simpa using h
 rw [List.getD_eq_getElem?_getD,List.getElem?_eq_getElem h2];rfl
theorem u8bneR {c:UInt8} {d:Nat} (hd:d<256) (h:c≠UInt8.ofNat d):((c.toNat:Int) != (d:Int))=true:=by
 rw [bne,u8neq hd h];rfl
def runit (v:Option Nat):Int:=v.elim (-1) (λa=>(a:Int))

theorem rdigit_none (c:UInt8) (w:World) (h:Chr.hexv c=none):
  Calls Tryz.prog 111 #[.int .u8 c.toNat] w λe w'=>e=.returned (.int .i64 (-1))/\w=w':=by
 have:=rdigit_is c w;unfold rdig at this;rw [h] at this;exact this
theorem rdigit_some (c:UInt8) (d:Nat) (w:World) (h:Chr.hexv c=some d):
  Calls Tryz.prog 111 #[.int .u8 c.toNat] w λe w'=>e=.returned (.int .i64 d)/\w=w':=by
 have:=rdigit_is c w;unfold rdig at this;rw [h] at this;exact this

theorem runit_short (s:ByteArray) (k:Nat) (w:World) (hs:s.size<=maxLen) (hk:k<=9223372036854775000) (h:s.size<k+6):
  Calls Tryz.prog 103 #[.string s,.int .i64 k] w λe w'=>e=.returned (.int .i64 (-1))/\w=w':=by
 unfold maxLen at hs;have d0:decide ((k:Int)<0)=false:=dF (by omega);have d1:decide ((s.size:Int) - (k:Int)<6)=true:=dT (by omega);go_enter Tryz.func103,Tryz.ntmps103
 go_wp2_with fail
 go_ret
 exact ⟨rfl,rfl⟩
theorem runit_not (s:ByteArray) (k:Nat) (w:World) (hs:s.size<=maxLen) (h:k+6<=s.size) (hn:s[k]≠92\/s[k+1]≠117):
  Calls Tryz.prog 103 #[.string s,.int .i64 k] w λe w'=>e=.returned (.int .i64 (-1))/\w=w':=by
 unfold maxLen at hs;have d0:decide ((k:Int)<0)=false:=dF (by omega);have d1:decide ((s.size:Int) - (k:Int)<6)=false:=dF (by omega);obtain ⟨a,ha⟩:∃ a,s[k]=a:=⟨_,rfl⟩;obtain ⟨b,hb⟩:∃ b,s[k+1]=b:=⟨_,rfl⟩;rw [ha,hb] at hn;by_cases h1:a=92
 ·have h2:b≠117:=by rcases hn with h | h;exact absurd h1 h;exact h
  have e1:((a.toNat:Int) != 92)=false:=by subst h1;rfl
  have e2:=u8bneR (d:=117) (by omega) h2;clear hn h1 h2;go_enter Tryz.func103,Tryz.ntmps103
  go_wp2_with fail
  go_ret
  exact ⟨rfl,rfl⟩
 ·have e1:=u8bneR (d:=92) (by omega) h1;clear hn h1;go_enter Tryz.func103,Tryz.ntmps103
  go_wp2_with fail
  go_ret
  exact ⟨rfl,rfl⟩

structure RInv (l:List UInt8) (j n:Nat):Prop where
 lo:2<=j
 hi:j<=6
 eq:Chr.hexs 0 (l.take 4)=Chr.hexs n ((l.take 4).drop (j - 2))
 bd:n<65536
 b2:j=2->n=0
 b3:j=3->n<16
 b4:j=4->n<256
 b5:j=5->n<4096
theorem RInv.start (l:List UInt8):RInv l 2 0:=⟨by omega,by omega,by simp,by omega,by omega,by omega,by omega,by omega⟩
theorem RInv.at_ {l:List UInt8} {j n:Nat} (h:RInv l j n) (hj:j<6) (hl:4<=l.length) {c:UInt8} (hc:l.getD (j - 2) 0=c):(l.take 4).drop (j - 2)=c::(l.take 4).drop (j+1 - 2):=by
 have:=h.lo;rw [Nm.drop_cons (l.take 4) (j - 2) (by simp;omega),show j - 2+1=j+1 - 2 by omega];congr 1
 rw [<- hc,List.getElem_take,List.getD_eq_getElem?_getD,List.getElem?_eq_getElem (by omega)];rfl
theorem RInv.bad {l:List UInt8} {j n:Nat} (h:RInv l j n) (hj:j<6) (hl:4<=l.length) {c:UInt8} (hc:l.getD (j - 2) 0=c) (hx:Chr.hexv c=none):Chr.hexs 0 (l.take 4)=none:=by
 rw [h.eq,h.at_ hj hl hc];unfold Chr.hexs;rw [hx]
theorem RInv.step {l:List UInt8} {j n d:Nat} (h:RInv l j n) (hj:j<6) (hl:4<=l.length) {c:UInt8} (hc:l.getD (j - 2) 0=c) (hx:Chr.hexv c=some d):RInv l (j+1) (n*16+d):=by
 have hd:=Chr.hexv_lt hx;have:=h.lo;have:=h.b2;have:=h.b3;have:=h.b4;have:=h.b5;refine ⟨by omega,by omega,?_,by omega,by omega,by omega,by omega,by omega⟩;rw [h.eq,h.at_ hj hl hc]
 conv=>lhs;unfold Chr.hexs
 rw [hx]
theorem RInv.stop {l:List UInt8} {n:Nat} (h:RInv l 6 n):Chr.hexs 0 (l.take 4)=some n:=by
 rw [h.eq,List.drop_of_length_le (by simp;omega)];rfl

theorem runit_yes (s:ByteArray) (k:Nat) (w:World) (hs:s.size<=maxLen) (h:k+6<=s.size) (ha:s[k]=92) (hb:s[k+1]=117):
  Calls Tryz.prog 103 #[.string s,.int .i64 k] w λe w'=>e=.returned (.int .i64 (runit (Chr.hexs 0 ((s.data.toList.drop (k+2)).take 4))))/\w=w':=by
 unfold maxLen at hs;have d0:decide ((k:Int)<0)=false:=dF (by omega);have d1:decide ((s.size:Int) - (k:Int)<6)=false:=dF (by omega);have hl:4<=(s.data.toList.drop (k+2)).length:=by simp;omega
 have hat:∀ j (h2:2<=j) (hj:k+j<s.size),(s.data.toList.drop (k+2)).getD (j - 2) 0=s[k+j]:=by
  intro j h2 hj;rw [List.getD_eq_getElem?_getD,List.getElem?_drop,<- List.getD_eq_getElem?_getD,show k+2+(j - 2)=k+j by omega,getD_atR hj]
 have HI:=LH (RInv.start (s.data.toList.drop (k+2)));have HL:=LH hl;have HA:=LH hat;clear hl hat;go_enter Tryz.func103,Tryz.ntmps103
 go_wp2_with fail
 go_loop [5,6] (λv i=>∃ j n:Nat,v=.int .i64 n/\i=.int .i64 j/\Hid (RInv (s.data.toList.drop (k+2)) j n)) (λ_ i=>6 - (intOf i).toNat)
 case atStart=>exact ⟨2,0,rfl,rfl,HI⟩
 case round=>
  obtain ⟨j,n,rfl,rfl,hj⟩:=hrel;have h2:=hj.out.lo;have h6:=hj.out.hi;have hnb:=hj.out.bd;by_cases hlt:j<6
  ·have hx:k+j<s.size:=by omega
   obtain ⟨c,hc⟩:∃ c,s[k+j]=c:=⟨_,rfl⟩;have hcd:=(HA.out j h2 hx).trans hc;rcases hv:Chr.hexv c with _ | d
   ·have hbd:=LH (hj.out.bad hlt HL.out hcd hv);have HV:=LH hv;clear hv hcd hj;go_wp2_with (go_at_call 111;refine (rdigit_none c _ HV.out).mono ?_;rintro e w' ⟨rfl,rfl⟩)
    go_ret
    exact ⟨by rw [hbd.out];rfl,rfl⟩
   ·have hbd:=LH (hj.out.step hlt HL.out hcd hv);have hd:=Chr.hexv_lt hv;have HV:=LH hv;clear hv hcd hj;go_wp2_with (go_at_call 111;refine (rdigit_some c d _ HV.out).mono ?_;rintro e w' ⟨rfl,rfl⟩)
    exact ⟨⟨j+1,n*16+d,by go_num,by go_num,hbd⟩,by simp [intOf];omega⟩
  ·obtain rfl:j=6:=by omega
   have hbd:=LH hj.out.stop;clear hj;go_wp2_with fail
   go_ret
   exact ⟨by rw [hbd.out];rfl,rfl⟩

theorem runit_is (s:ByteArray) (k:Nat) (v:Option Nat) (w:World) (hs:s.size<=maxLen) (hk:k<=9223372036854775000) (h:Chr.unitv (s.data.toList.drop k)=v):
  Calls Tryz.prog 103 #[.string s,.int .i64 k] w λe w'=>e=.returned (.int .i64 (runit v))/\w=w':=by
 subst h;by_cases h1:s.size<k+6
 ·rw [Chr.unitv_short (by simpa using h1)];exact runit_short s k w hs hk h1
 ·have hk1:k<s.size:=by omega
  have hk2:k+1<s.size:=by omega
  rw [Chr.unitv_at (by simp;omega),getD_atR hk1,getD_atR hk2];by_cases h2:s[k]=92/\s[k+1]=117
  ·rw [if_pos h2];exact runit_yes s k w hs (by omega) h2.1 h2.2
  ·rw [if_neg h2];exact runit_not s k w hs (by omega) (by
    by_cases h3:s[k]=92
    ·exact .inr λh4=>h2 ⟨h3,h4⟩
    ·exact .inl h3)

/- The walk of the document's Escape. -/

def ltAt (j:Nat):UInt8:=([34,92,47,98,102,110,114,116]:List UInt8).getD j 0
def ptAt (j:Nat):Nat:=([34,92,47,8,12,10,13,9]:List Nat).getD j 0
def PtTab (w:World):Prop:=∀ j,j<8->w.cell? ⟨0,j,none⟩=some (.int .i64 (ptAt j))
theorem PtTab.keep {w w':World} (h:PtTab w) (hf:Fr w w'):PtTab w':=by
 intro j hj;have h0:=h j hj;rw [hf.cell (World.block_lt_of_cell? w _ h0)];exact h0
theorem lt_plain:∀ j:Fin 8,Chr.plain (ltAt j)=some (UInt8.ofNat (ptAt j))/\(UInt8.ofNat (ptAt j)).toNat=ptAt j:=by decide +kernel
theorem lt_idx:∀ j:Fin 8,(⟨#[34,92,47,98,102,110,114,116]⟩:ByteArray)[j.val]'(by show _<8;exact j.isLt)=ltAt j.val:=by decide +kernel
theorem plain_none {c:UInt8} (h:∀ m,m<8->ltAt m≠c):Chr.plain c=none:=by
 unfold Chr.plain;rw [if_neg (λe=>h 0 (by omega) e.symm),if_neg (λe=>h 1 (by omega) e.symm),if_neg (λe=>h 2 (by omega) e.symm),if_neg (λe=>h 3 (by omega) e.symm),if_neg (λe=>h 4 (by omega) e.symm),if_neg (λe=>h 5 (by omega) e.symm),if_neg (λe=>h 6 (by omega) e.symm),if_neg (λe=>h 7 (by omega) e.symm)]
theorem runit_none (s:ByteArray) (k:Nat) (w:World) (hs:s.size<=maxLen) (hk:k<=9223372036854775000) (h:Chr.unitv (s.data.toList.drop k)=none):
  Calls Tryz.prog 103 #[.string s,.int .i64 k] w λe w'=>e=.returned (.int .i64 (-1))/\w=w':=runit_is s k none w hs hk h
theorem runit_some (s:ByteArray) (k a:Nat) (w:World) (hs:s.size<=maxLen) (hk:k<=9223372036854775000) (h:Chr.unitv (s.data.toList.drop k)=some a):
  Calls Tryz.prog 103 #[.string s,.int .i64 k] w λe w'=>e=.returned (.int .i64 a)/\w=w':=runit_is s k (some a) w hs hk h
theorem runit_none6 (s:ByteArray) (k:Nat) (w:World) (hs:s.size<=maxLen) (hk:k+6<=9223372036854775000) (h:Chr.unitv (s.data.toList.drop (k+6))=none):
  Calls Tryz.prog 103 #[.string s,.int .i64 ((k:Int)+6)] w λe w'=>e=.returned (.int .i64 (-1))/\w=w':=by
 rw [show (k:Int)+6=((k+6:Nat):Int) by omega];exact runit_none s (k+6) w hs hk h
theorem runit_some6 (s:ByteArray) (k a:Nat) (w:World) (hs:s.size<=maxLen) (hk:k+6<=9223372036854775000) (h:Chr.unitv (s.data.toList.drop (k+6))=some a):
  Calls Tryz.prog 103 #[.string s,.int .i64 ((k:Int)+6)] w λe w'=>e=.returned (.int .i64 a)/\w=w':=by
 rw [show (k:Int)+6=((k+6:Nat):Int) by omega];exact runit_some s (k+6) a w hs hk h

def rescR (o:Option (Nat × Nat)):Value:=.tuple #[.int .i64 (o.elim 0 (λx=>x.1):Nat),.int .i64 (o.elim 0 (λx=>x.2):Nat)]
theorem escd_shortR {s:ByteArray} {k:Nat} (h:s.size - k<2):Chr.escd (s.data.toList.drop k)=none/\Chr.unitv (s.data.toList.drop k)=none:=by
 have hu:Chr.unitv (s.data.toList.drop k)=none:=Chr.unitv_short (by simp;omega);refine ⟨?_,hu⟩;unfold Chr.escd;have e:(s.data.toList.drop k).getD 1 0=0:=by
  rw [List.getD_eq_getElem?_getD,List.getElem?_eq_none (by simp;omega)];rfl
 rw [e,show Chr.plain 0=none from rfl];simp only;unfold Chr.escu;rw [hu]
theorem escd_atR {s:ByteArray} {k:Nat} {c:UInt8} (h:k+1<s.size) (hc:s[k+1]=c):Chr.escd (s.data.toList.drop k)=match Chr.plain c with | some p=>some (p.toNat,2) | none=>Chr.escu (s.data.toList.drop k):=by
 unfold Chr.escd;have e:(s.data.toList.drop k).getD 1 0=c:=by
  rw [List.getD_eq_getElem?_getD,List.getElem?_drop,<- List.getD_eq_getElem?_getD,getD_atR h,hc]
 rw [e]
 cases Chr.plain c <;> rfl

theorem resc_short (s:ByteArray) (k:Nat) (w:World) (hs:s.size<=9223372036854770000) (hk:k<s.size) (h2:s.size - k<2):
  Calls Tryz.prog 86 #[.string s,.int .i64 k] w λe w'=>e=.returned (rescR none)/\w=w':=by
 have hsm:Hid (s.size<=maxLen):=by show _<=_;unfold maxLen;omega
 have hu:=LH (escd_shortR h2).2;have d1:decide ((2:Int)<=(s.size:Int) - (k:Int))=false:=dF (by omega);go_enter Tryz.func86,Tryz.ntmps86
 go_wp2_with (go_at_call 103;refine (runit_none s k _ hsm.out (by omega) hu.out).mono ?_;rintro e w' ⟨rfl,rfl⟩)
 go_ret2
 exact ⟨rfl,rfl⟩

theorem resc_is (s:ByteArray) (k:Nat) (o:Option (Nat × Nat)) (w:World) (hs:s.size<=9223372036854770000) (hk:k<s.size) (hT:PtTab w) (h:Chr.escd (s.data.toList.drop k)=o):
  Calls Tryz.prog 86 #[.string s,.int .i64 k] w λe w'=>e=.returned (rescR o)/\Fr w w':=by
 by_cases h2:s.size - k<2
 ·rw [(escd_shortR h2).1] at h;subst h;refine (resc_short s k w hs hk h2).mono ?_;rintro e w' ⟨rfl,rfl⟩;exact ⟨rfl,FR _⟩
 have hsm:Hid (s.size<=maxLen):=by show _<=_;unfold maxLen;omega
 have HT:=LH hT;clear hT;have d1:decide ((2:Int)<=(s.size:Int) - (k:Int))=true:=dT (by omega);have hk1:k+1<s.size:=by omega
 obtain ⟨c,hc⟩:∃ c,s[k+1]=c:=⟨_,rfl⟩;rw [escd_atR hk1 hc] at h;have H:=LH h;clear h;go_enter Tryz.func86,Tryz.ntmps86
 go_wp2_with fail
 go_loopw [6] (λi wr=>∃ j:Nat,j<=8/\i=.int .i64 j/\Hid (∀ m,m<j->ltAt m≠c)/\Hid (Fr w wr)) (λi _=>8 - (intOf i).toNat)
 case atStart=>exact ⟨0,by omega,rfl,by show ∀ m,m<0->_;intro m hm;omega,LH (FR _)⟩
 case round=>
  obtain ⟨j,hj,rfl,hall,hfr⟩:=hrel;by_cases hlt:j<8
  ·have hk1z:(k:Int)+1<(s.size:Int):=by omega
   have hwr:IntKind.i64.wrap ((k:Int)+1)=(k:Int)+1:=by rw [IntKind.wrap_i64];omega
   obtain ⟨x,hx⟩:∃ x,(⟨#[34,92,47,98,102,110,114,116]⟩:ByteArray)[j]'(by show j<8;exact hlt)=x:=⟨_,rfl⟩;have hxl:ltAt j=x:=(lt_idx ⟨j,hlt⟩).symm.trans hx;have hcell:=HT.out.keep hfr.out j hlt;have hjz:(j:Int)<8:=by omega
   by_cases hcx:c=x
   ·have hpl:=lt_plain ⟨j,hlt⟩;simp only at hpl;rw [hxl,<- hcx] at hpl;have H':=H.out;rw [hpl.1] at H';simp only at H';rw [hpl.2] at H';subst H';subst hcx;clear hpl hall hxl H;go_wp2_with fail
    go_quiet (fail)
    go_wp2_with fail
    go_ret2
    exact ⟨rfl,hfr.out.drewN _⟩
   ·have hne:((c.toNat:Int) == (x.toNat:Int))=false:=by
     rw [beq_eq_false_iff_ne];intro e;exact hcx (UInt8.toNat_inj.1 (by omega))
    have hnx:Hid (∀ m,m<j+1->ltAt m≠c):=by
     show ∀ m,m<j+1->ltAt m≠c;intro m hm;by_cases e:m=j
     ·subst e;rw [hxl];exact λe=>hcx e.symm
     ·exact hall.out m (by omega)
    clear hall hxl hcx;go_wp2_with fail
    go_quiet (fail)
    go_wp2_with fail
    exact ⟨⟨j+1,by omega,by go_num,hnx,LH (hfr.out.drewN _)⟩,by simp [intOf];omega⟩
  ·obtain rfl:j=8:=by omega
   have hpl:=plain_none hall.out;have h:=H.out;rw [hpl] at h;simp only at h;clear hall hpl H;unfold Chr.escu at h;rcases ha:Chr.unitv (s.data.toList.drop k) with _ | a
   ·rw [ha] at h;simp only at h;subst h;have HA:=LH ha;clear ha;go_wp2_with (go_at_call 103;refine (runit_none s k _ hsm.out (by omega) HA.out).mono ?_;rintro e w' ⟨rfl,rfl⟩)
    go_ret2
    exact ⟨rfl,hfr.out⟩
   ·rw [ha] at h;simp only at h;have ha6:=Chr.unitv_lt ha;have HA:=LH ha;clear ha;by_cases hpt:a<55296\/57343<a
    ·rw [if_pos hpt] at h;subst h;have HPt:=LH (Utf.isPt_iff.2 (⟨by omega,hpt⟩:a<=1114111/\(a<55296\/57343<a)));clear hpt;go_wp2_with (first
      | (go_at_call 103;refine (runit_some s k a _ hsm.out (by omega) HA.out).mono ?_;rintro e w' ⟨rfl,rfl⟩;have MK:=LH trivial)
      | (go_at_call 104;refine (ris_is a true _ (by omega) HPt.out).mono ?_;rintro e w' ⟨rfl,rfl⟩))
     go_ret2
     exact ⟨rfl,hfr.out⟩
    ·rw [if_neg hpt] at h;have HPt:Hid (Utf.isPt a=false):=by
      show _=_;rw [<- Bool.not_eq_true,Utf.isPt_iff];omega
     rw [List.drop_drop] at h;rcases hb:Chr.unitv (s.data.toList.drop (k+6)) with _ | b
     ·rw [hb] at h;simp only at h;subst h;have HB:=LH hb;clear hb hpt;by_cases g1:a<=56319
      ·have f1:decide ((a:Int)<=56319)=true:=dT (by omega);go_wp2_with (first
        | (go_at_call 103;have HM:=MK.out;refine (runit_none6 s k _ hsm.out (by omega) HB.out).mono ?_;rintro e w' ⟨rfl,rfl⟩)
        | (go_at_call 103;refine (runit_some s k a _ hsm.out (by omega) HA.out).mono ?_;rintro e w' ⟨rfl,rfl⟩;have MK:=LH trivial)
        | (go_at_call 104;refine (ris_is a false _ (by omega) HPt.out).mono ?_;rintro e w' ⟨rfl,rfl⟩))
       go_ret2
       exact ⟨rfl,hfr.out⟩
      ·have f1:decide ((a:Int)<=56319)=false:=dF (by omega);go_wp2_with (first
        | (go_at_call 103;have HM:=MK.out;refine (runit_none6 s k _ hsm.out (by omega) HB.out).mono ?_;rintro e w' ⟨rfl,rfl⟩)
        | (go_at_call 103;refine (runit_some s k a _ hsm.out (by omega) HA.out).mono ?_;rintro e w' ⟨rfl,rfl⟩;have MK:=LH trivial)
        | (go_at_call 104;refine (ris_is a false _ (by omega) HPt.out).mono ?_;rintro e w' ⟨rfl,rfl⟩))
       go_ret2
       exact ⟨rfl,hfr.out⟩
     ·rw [hb] at h;simp only at h;have hb6:=Chr.unitv_lt hb;have HB:=LH hb;clear hb;by_cases hpair:a<=56319/\56320<=b/\b<=57343
      ·rw [if_pos hpair] at h;obtain ⟨p1,p2,p3⟩:=hpair;obtain ⟨q,hq⟩:∃ q,65536+(a - 55296)*1024+(b - 56320)=q:=⟨_,rfl⟩;have hqz:(65536:Int)+((a:Int) - 55296)*1024+((b:Int) - 56320)=(q:Int):=by omega
       rw [hq] at h;subst h;clear hq;have f1:decide ((a:Int)<=56319)=true:=dT (by omega);have f2:decide ((56320:Int)<=(b:Int))=true:=dT (by omega);have f3:decide ((b:Int)<=57343)=true:=dT (by omega);go_wp2_with (first
        | (go_at_call 103;have HM:=MK.out;refine (runit_some6 s k b _ hsm.out (by omega) HB.out).mono ?_;rintro e w' ⟨rfl,rfl⟩)
        | (go_at_call 103;refine (runit_some s k a _ hsm.out (by omega) HA.out).mono ?_;rintro e w' ⟨rfl,rfl⟩;have MK:=LH trivial)
        | (go_at_call 104;refine (ris_is a false _ (by omega) HPt.out).mono ?_;rintro e w' ⟨rfl,rfl⟩))
       go_ret2
       exact ⟨rfl,hfr.out⟩
      ·rw [if_neg hpair] at h;subst h;have hcs:56319<a\/(a<=56319/\b<56320)\/(a<=56319/\56320<=b/\57343<b):=by omega
       clear hpair;rcases hcs with g1 | ⟨g1,g2⟩ | ⟨g1,g2,g3⟩
       ·have f1:decide ((a:Int)<=56319)=false:=dF (by omega);go_wp2_with (first
         | (go_at_call 103;have HM:=MK.out;refine (runit_some6 s k b _ hsm.out (by omega) HB.out).mono ?_;rintro e w' ⟨rfl,rfl⟩)
         | (go_at_call 103;refine (runit_some s k a _ hsm.out (by omega) HA.out).mono ?_;rintro e w' ⟨rfl,rfl⟩;have MK:=LH trivial)
         | (go_at_call 104;refine (ris_is a false _ (by omega) HPt.out).mono ?_;rintro e w' ⟨rfl,rfl⟩))
        go_ret2
        exact ⟨rfl,hfr.out⟩
       ·have f1:decide ((a:Int)<=56319)=true:=dT (by omega);have f2:decide ((56320:Int)<=(b:Int))=false:=dF (by omega);go_wp2_with (first
         | (go_at_call 103;have HM:=MK.out;refine (runit_some6 s k b _ hsm.out (by omega) HB.out).mono ?_;rintro e w' ⟨rfl,rfl⟩)
         | (go_at_call 103;refine (runit_some s k a _ hsm.out (by omega) HA.out).mono ?_;rintro e w' ⟨rfl,rfl⟩;have MK:=LH trivial)
         | (go_at_call 104;refine (ris_is a false _ (by omega) HPt.out).mono ?_;rintro e w' ⟨rfl,rfl⟩))
        go_ret2
        exact ⟨rfl,hfr.out⟩
       ·have f1:decide ((a:Int)<=56319)=true:=dT (by omega);have f2:decide ((56320:Int)<=(b:Int))=true:=dT (by omega);have f3:decide ((b:Int)<=57343)=false:=dF (by omega);go_wp2_with (first
         | (go_at_call 103;have HM:=MK.out;refine (runit_some6 s k b _ hsm.out (by omega) HB.out).mono ?_;rintro e w' ⟨rfl,rfl⟩)
         | (go_at_call 103;refine (runit_some s k a _ hsm.out (by omega) HA.out).mono ?_;rintro e w' ⟨rfl,rfl⟩;have MK:=LH trivial)
         | (go_at_call 104;refine (ris_is a false _ (by omega) HPt.out).mono ?_;rintro e w' ⟨rfl,rfl⟩))
        go_ret2
        exact ⟨rfl,hfr.out⟩

/- The walk of the document's Read. -/

theorem resc_none (s:ByteArray) (k:Nat) (w:World) (hs:s.size<=9223372036854770000) (hk:k<s.size) (hT:PtTab w) (h:Chr.escd (s.data.toList.drop k)=none):
  Calls Tryz.prog 86 #[.string s,.int .i64 k] w λe w'=>e=.returned (.tuple #[.int .i64 0,.int .i64 0])/\Fr w w':=resc_is s k none w hs hk hT h
theorem resc_some (s:ByteArray) (k p n:Nat) (w:World) (hs:s.size<=9223372036854770000) (hk:k<s.size) (hT:PtTab w) (h:Chr.escd (s.data.toList.drop k)=some (p,n)):
  Calls Tryz.prog 86 #[.string s,.int .i64 k] w λe w'=>e=.returned (.tuple #[.int .i64 p,.int .i64 n])/\Fr w w':=resc_is s k (some (p,n)) w hs hk hT h

theorem rtread_out (s:ByteArray) (a:Int) (w:World) (hs:s.size<=maxLen) (h1:-9223372036854775808<=a) (h2:a<=9223372036854775807) (h:a<0\/(s.size:Int)<=a):
  Calls Tryz.prog 70 #[.string s,.int .i64 a] w λe w'=>e=.returned (readV (Chr.read s.data.toList a))/\w=w':=by
 have hr:=LH (Chr.read_out (l:=s.data.toList) (a:=a) (by
  rcases h with h | h
  ·exact .inl h
  ·exact .inr (.inl (by simpa using h))))
 unfold maxLen at hs;by_cases hn:a<0
 ·have d1:decide (a<0)=true:=dT hn;go_enter Tryz.func70,Tryz.ntmps70
  go_wp2_with fail
  go_ret3
  exact ⟨by rw [hr.out];rfl,rfl⟩
 ·have hn2:(s.size:Int)<=a:=by omega
  have d1:decide (a<0)=false:=dF hn;have d2:decide ((s.size:Int)<=a)=true:=dT hn2;clear h;go_enter Tryz.func70,Tryz.ntmps70
  go_wp2_with fail
  go_ret3
  exact ⟨by rw [hr.out];rfl,rfl⟩

theorem rtread_not (s:ByteArray) (k:Nat) (w:World) (hs:s.size<=maxLen) (hk:k<s.size) (hc:s[k]≠34):
  Calls Tryz.prog 70 #[.string s,.int .i64 k] w λe w'=>e=.returned (readV (Chr.read s.data.toList k))/\w=w':=by
 have hr:=LH (Chr.read_out (l:=s.data.toList) (a:=(k:Int)) (.inr (.inr (by rw [Int.toNat_natCast,getD_atR hk];exact hc))));unfold maxLen at hs;obtain ⟨c,hcc⟩:∃ c,s[k]=c:=⟨_,rfl⟩;rw [hcc] at hc;have d1:decide ((k:Int)<0)=false:=dF (by omega);have d2:decide ((s.size:Int)<=(k:Int))=false:=dF (by omega);have e1:((c.toNat:Int) != 34)=true:=u8bneR (d:=34) (by omega) hc;clear hc;go_enter Tryz.func70,Tryz.ntmps70
 go_wp2_with fail
 go_ret3
 exact ⟨by rw [hr.out];rfl,rfl⟩

theorem rtread_in (s:ByteArray) (k:Nat) (w:World) (hs:s.size<=140737488355328) (hk:k<s.size) (hc:s[k]=34) (hT:PtTab w):
  Calls Tryz.prog 70 #[.string s,.int .i64 k] w λe w'=>e=.returned (readV (Chr.read s.data.toList k))/\Fr w w':=by
 have hsm:Hid (s.size<=maxLen):=by show _<=_;unfold maxLen;omega
 have hsn:Hid (s.size<=9223372036854770000):=by show _<=_;omega
 have h34:Hid (s.data.toList.getD k 0=34):=by show _=_;rw [getD_atR hk,hc]
 have HT:=LH hT;clear hT;have d1:decide ((k:Int)<0)=false:=dF (by omega);have d2:decide ((s.size:Int)<=(k:Int))=false:=dF (by omega);have d2n:decide (s.size<=k)=false:=dF (by omega);go_enter Tryz.func70,Tryz.ntmps70
 go_wp2_with fail
 go_loopw [7,8] (λv j wr=>∃ (i:Nat) (ps:List Nat),j=.int .i64 i/\Hid (RdInv s k i ps)/\Hid (Bs wr w.heap.size v (ps.flatMap Utf.bytes))/\Hid (Fr w wr)) (λ_ j _=>s.size - (intOf j).toNat)
 case atStart=>exact ⟨k+1,[],by go_num,LH (RdInv.start hk),LH (Bs.none_ _ _),LH (FR _)⟩
 case round=>
  obtain ⟨i,ps,rfl,hi,hbs,hfr⟩:=hrel;have hlo:=hi.out.lo;have hhi:=hi.out.hi;by_cases hlt:i<s.size
  ·obtain ⟨c,hcc⟩:∃ c,s[i]=c:=⟨_,rfl⟩;have hc256:=c.toNat_lt;by_cases q34:c=34
   ·subst q34;have hr:=LH (hi.out.fin hk h34.out (tok_fin_at hlt hcc));have hcv:=hbs.out.conv;clear hi;go_wp2_with fail
    go_ret3
    exact ⟨by rw [hr.out];rfl,hfr.out⟩
   have e34:((c.toNat:Int) == 34)=false:=u8neq (d:=34) (by omega) q34;by_cases q32:c.toNat<32
   ·have hr:=LH (hi.out.bad hk h34.out (tok_low_at hlt hcc q34 q32));have d32:decide ((c.toNat:Int)<32)=true:=dT (by omega);clear hi q34;go_wp2_with fail
    go_ret3
    exact ⟨by rw [hr.out];rfl,hfr.out⟩
   have d32:decide ((c.toNat:Int)<32)=false:=dF (by omega);by_cases q92:c=92
   ·subst q92;rcases ho:Chr.escd (s.data.toList.drop i) with _ | ⟨p,n⟩
    ·have hr:=LH (hi.out.bad hk h34.out (tok_esc_none hlt hcc ho));have HO:=LH ho;clear hi ho q34 q32;go_wp2_with (go_at_call 86;refine (resc_none s i _ hsn.out hlt (HT.out.keep hfr.out) HO.out).mono ?_;rintro e w1 ⟨rfl,hf1⟩;have HF1:=LH hf1;clear hf1)
     go_ret3
     exact ⟨by rw [hr.out];rfl,hfr.out.trans HF1.out⟩
    ·have ht:=tok_esc_some hlt hcc ho;have hnx:=LH (hi.out.step ht);have hroom:=LH (hi.out.room ht);have hpc:=Chr.tok_pc ht;have hn0:1<=n:=hpc.2.1;have HPt:=LH hpc.1;have hin:=(hi.out.step ht).hi;have HO:=LH ho;have e0:((n:Int) == 0)=false:=by rw [beq_eq_false_iff_ne];omega
     clear hi ho ht hpc q34 q32;go_wp2_with (first
      | (go_at_call 86;refine (resc_some s i p n _ hsn.out hlt (HT.out.keep hfr.out) HO.out).mono ?_;rintro e w1 ⟨rfl,hf1⟩;have HF1:=LH hf1;clear hf1)
      | (go_at_call 88;refine (rbytes_is p _ HPt.out).mono ?_;rintro e w2 ⟨vb,rfl,hb2,hf2⟩;have HF2:=LH hf2;have HB2:=LH hb2;clear hf2 hb2)
      | (at_builtin;refine wpl_bs rfl (.tmp 67) (.tmp 69) rfl w ((hfr.out.trans HF1.out).trans HF2.out) _ _ rfl ((hbs.out.keep HF1.out).keep HF2.out) _ _ (Utf.bytes p) rfl HB2.out (lT hroom.out hs) ?_;intro v' w3 hps3 hfr3 _;have HP3:=LH hps3;have HF3:=LH hfr3;clear hps3 hfr3))
     exact ⟨⟨i+n,ps++[p],by go_num,hnx,by show Bs _ _ _ _;rw [flat_snoc];exact HP3.out,HF3⟩,by simp [intOf];omega⟩
   have e92:((c.toNat:Int) == 92)=false:=u8neq (d:=92) (by omega) q92;obtain ⟨p,n,ho,hle,hpp⟩:=one_at hlt;by_cases hn:n=0
   ·subst hn;have hr:=LH (hi.out.bad hk h34.out (tok_one_none hlt hcc q34 q32 q92 ho));have HO:=LH ho;clear hi ho q34 q32 q92;go_wp2_with (go_at_call 87;refine (rone_is s i p 0 _ hsm.out hlt HO.out).mono ?_;rintro e w1 ⟨rfl,hf1⟩;have HF1:=LH hf1;clear hf1)
    go_ret3
    exact ⟨by rw [hr.out];rfl,hfr.out.trans HF1.out⟩
   ·have ht:=tok_one_some hlt hcc q34 q32 q92 ho hn;have hnx:=LH (hi.out.step ht);have hroom:=LH (hi.out.room ht);have HPt:=LH (Chr.tok_pc ht).1;have HO:=LH ho;have e0:((n:Int) == 0)=false:=by rw [beq_eq_false_iff_ne];omega
    clear hi ho ht q34 q32 q92;go_wp2_with (first
     | (go_at_call 87;refine (rone_is s i p n _ hsm.out hlt HO.out).mono ?_;rintro e w1 ⟨rfl,hf1⟩;have HF1:=LH hf1;clear hf1)
     | (go_at_call 88;refine (rbytes_is p _ HPt.out).mono ?_;rintro e w2 ⟨vb,rfl,hb2,hf2⟩;have HF2:=LH hf2;have HB2:=LH hb2;clear hf2 hb2)
     | (at_builtin;refine wpl_bs rfl (.tmp 67) (.tmp 69) rfl w ((hfr.out.trans HF1.out).trans HF2.out) _ _ rfl ((hbs.out.keep HF1.out).keep HF2.out) _ _ (Utf.bytes p) rfl HB2.out (lT hroom.out hs) ?_;intro v' w3 hps3 hfr3 _;have HP3:=LH hps3;have HF3:=LH hfr3;clear hps3 hfr3))
    exact ⟨⟨i+n,ps++[p],by go_num,hnx,by show Bs _ _ _ _;rw [flat_snoc];exact HP3.out,HF3⟩,by simp [intOf];omega⟩
  ·have hr:=LH (hi.out.bad hk h34.out (tok_end hlt));obtain rfl:i=s.size:=by omega
   clear hi;go_wp2_with fail
   go_ret3
   exact ⟨by rw [hr.out];rfl,hfr.out⟩

theorem rtread_is (s:ByteArray) (a:Int) (w:World) (hs:s.size<=140737488355328) (h1:-9223372036854775808<=a) (h2:a<=9223372036854775807) (hT:PtTab w):
  Calls Tryz.prog 70 #[.string s,.int .i64 a] w λe w'=>e=.returned (readV (Chr.read s.data.toList a))/\Fr w w':=by
 have hsm:s.size<=maxLen:=by unfold maxLen;omega
 by_cases ho:a<0\/(s.size:Int)<=a
 ·refine (rtread_out s a w hsm h1 h2 ho).mono ?_;rintro e w' ⟨rfl,rfl⟩;exact ⟨rfl,FR _⟩
 ·obtain ⟨k,rfl⟩:∃ k:Nat,a=k:=⟨a.toNat,by omega⟩;have hk:k<s.size:=by omega
  by_cases hc:s[k]=34
  ·exact rtread_in s k w hs hk hc hT
  ·refine (rtread_not s k w hsm hk hc).mono ?_;rintro e w' ⟨rfl,rfl⟩;exact ⟨rfl,FR _⟩

end Go.Proofs.YtockgemmkjdnkaaGreatDoor
