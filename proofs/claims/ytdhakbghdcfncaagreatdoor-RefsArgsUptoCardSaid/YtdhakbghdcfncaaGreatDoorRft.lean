/- Chapter 24's law of arguments: parts of a text, the document's bare, the lists of kinds. -/
import Derived.Test.YtdhakbghdcfncaaGreatDoorRfq
import Derived.Test.YtdhakbghdcfncaaGreatDoorRfa
import Derived.Test.YtdhakbghdcfncaaGreatDoorPta
import Derived.Test.YtdhakbghdcfncaaGreatDoorIdt
namespace Go.Proofs.YtdhakbghdcfncaaGreatDoor
set_option maxRecDepth 100000
set_option maxHeartbeats 4000000
set_option linter.unusedVariables false
set_option linter.unusedSimpArgs false
open Go.RowKit

namespace Rf
def spl:Tx→Tx→List Tx
 | cur,[]=>[cur]
 | cur,x::l=>if x=32 then cur::spl [] l else spl (cur++[x]) l
theorem cut_take (s:Tx) (f k:Nat) (hfk:f≤k) (hk:k<s.length):(s.drop f).take (k+1 - f)=(s.drop f).take (k - f)++[s[k]]:=by
 have h:k - f<(s.drop f).length:=by rw [List.length_drop];omega
 rw [show k+1 - f=(k - f)+1 by omega,List.take_succ_eq_append_getElem h,List.getElem_drop]
 congr 2
 all_goals (try (congr 1;omega))
end Rf
theorem ba_cut (s:List UInt8) (f k:Nat):(⟨s.toArray⟩:ByteArray).extract f k=⟨((s.drop f).take (k - f)).toArray⟩:=by
 apply ByteArray.ext
 simp [ByteArray.data_extract]
 try rw [List.drop_take]
theorem rsplit_is (s:List UInt8) (w:World) (hs:s.length≤200):
  Calls Tryz.prog 32 #[.string ⟨s.toArray⟩,.int .u8 32] w fun e w'=>(∃ A c,e=.returned (.slice A (Rf.spl [] s).length c)∧PsC w' A (Rf.spl [] s))∧Fr w w':=by
 obtain ⟨S,hS⟩:∃ S:ByteArray,(⟨s.toArray⟩:ByteArray)=S:=⟨_,rfl⟩
 have hsz:S.size=s.length:=by rw [← hS];exact ba_size s
 have HE:Hid (∀ f k,S.extract f k=⟨((s.drop f).take (k - f)).toArray⟩):=Lib.hid (fun f k=>by rw [← hS];exact ba_cut s f k)
 have HAT:Hid (∀ k (h:k<S.size),s[k]? = some S[k]):=Lib.hid (fun k h=>by subst hS;rw [List.getElem?_eq_getElem (by omega)];rfl)
 have hS2:S.size≤200:=by omega
 have HSZ:=Lib.hid hsz
 obtain ⟨R,hR⟩:∃ R,Rf.spl [] s=R:=⟨_,rfl⟩
 have HR:=Lib.hid hR
 rw [hR,hS]
 clear hS hR hsz hs
 have HN:Hid (Ssl w w.heap.size (.slice none 0 0) []):=Lib.hid (Ssl.none_ w _)
 go_enter Tryz.func32,Tryz.ntmps32
 go_wp2_with fail
 go_loopw [5,6,7] (fun a5 a6 a7 wr=>∃ (k f:Nat) (acc:List (List UInt8)) (vs:Value),f≤k∧k≤S.size∧a5=vs∧a6=.int .i64 f∧a7=.int .i64 k∧acc.length≤k∧Hid (R=acc++Rf.spl ((s.drop f).take (k - f)) (s.drop k))∧Hid (Ssl wr w.heap.size vs acc)∧Hid (Fr w wr)) (fun _ _ a7 _=>S.size - (intOf a7).toNat)
 case atStart=>exact ⟨0,0,[],_,by omega,by omega,rfl,rfl,rfl,by simp,Lib.hid (by rw [← HR.out];simp),HN,Lib.hid (Fr.refl w)⟩
 case round=>
  obtain ⟨k,f,acc,vs,hfk,hk,rfl,rfl,rfl,hal,hI,hV,hF⟩:=hrel
  obtain ⟨sa,sc,rfl,_⟩:=hV.out.shows
  have hk2:(k:Int)≤(S.size:Int):=by omega
  have hfk2:(f:Int)≤(k:Int):=by omega
  by_cases hlt:k<S.size
  ·have hlt':(k:Int)<(S.size:Int):=by omega
   have hks:k<s.length:=by have:=HSZ.out;omega
   obtain ⟨x,hx⟩:∃ x,s[k]=x:=⟨_,rfl⟩
   have hat:S[k]=x:=by have h:=HAT.out k hlt;rw [List.getElem?_eq_getElem hks,hx] at h;exact (Option.some.inj h).symm
   have hdr:s.drop k=x::s.drop (k+1):=by rw [List.drop_eq_getElem_cons hks,hx]
   by_cases hc:x=32
   ·have e1:((x.toNat:Int) == 32)=true:=by rw [hc];rfl
    have hex:=HE.out f k
    obtain ⟨cur,hcur⟩:∃ c,(s.drop f).take (k - f)=c:=⟨_,rfl⟩
    rw [hcur] at hex
    have HI2:Hid (R=(acc++[cur])++Rf.spl ((s.drop (k+1)).take (k+1 - (k+1))) (s.drop (k+1))):=Lib.hid (by
     rw [hI.out,hdr,hcur,Nat.sub_self,List.take_zero]
     show acc++(if x=32 then _ else _)=_
     rw [if_pos hc,List.append_assoc];rfl)
    clear hx hdr hc hcur
    go_wp2_with (at_builtin;refine wpl_ss_lit rfl (.tmp 19) (.tmp 24) rfl w hF.out _ acc rfl hV.out [cur] rfl rfl rfl rfl (by first | rfl | (rw [hex];rfl)) (by simp only [List.length_cons,List.length_nil];omega) ?_;intro v3 w3 hs3 hf3;have HS3:=Lib.hid hs3;have HF3:=Lib.hid hf3;clear hs3 hf3)
    exact ⟨⟨k+1,k+1,acc++[cur],_,by omega,by omega,rfl,by go_num,by go_num,by simp;omega,HI2,HS3,HF3⟩,by simp [intOf];omega⟩
   ·have e1:((x.toNat:Int) == 32)=false:=by
     rw [beq_eq_false_iff_ne];intro e
     exact hc (UInt8.toNat_inj.1 (by show x.toNat=32;omega))
    have HI2:Hid (R=acc++Rf.spl ((s.drop f).take (k+1 - f)) (s.drop (k+1))):=Lib.hid (by
     rw [hI.out,hdr,Rf.cut_take s f k hfk hks,hx]
     show acc++(if x=32 then _ else _)=_
     rw [if_neg hc])
    clear hx hdr hc
    go_wp2_with fail
    exact ⟨⟨k+1,f,acc,_,by omega,by omega,rfl,rfl,by go_num,by omega,HI2,hV,hF⟩,by simp [intOf];omega⟩
  ·obtain rfl:k=S.size:=by omega
   have hex:=HE.out f S.size
   obtain ⟨cur,hcur⟩:∃ c,(s.drop f).take (S.size - f)=c:=⟨_,rfl⟩
   rw [hcur] at hex
   have HI2:Hid (R=acc++[cur]):=Lib.hid (by
    rw [hI.out,show s.drop S.size=[] from List.drop_eq_nil_of_le (by have:=HSZ.out;omega),hcur];rfl)
   clear hcur
   go_wp2_with (at_builtin;refine wpl_ss_lit rfl (.tmp 28) (.tmp 32) rfl w hF.out _ acc rfl hV.out [cur] rfl rfl rfl rfl (by first | rfl | (rw [hex];rfl)) (by simp only [List.length_cons,List.length_nil];omega) ?_;intro v3 w3 hs3 hf3;have HS3:=Lib.hid hs3;have HF3:=Lib.hid hf3;clear hs3 hf3)
   go_ret
   obtain ⟨A,c,rfl,hp⟩:=HS3.out.shows
   rw [HI2.out]
   exact ⟨⟨A,c,rfl,hp⟩,HF3.out⟩
theorem rbare_is (s:List UInt8) (w:World) (hs:s.length≤1048576):
  Calls Tryz.prog 60 #[.string ⟨s.toArray⟩] w fun e w'=>e=.returned (.tuple #[.string ⟨(Rf.bare s).1.toArray⟩,.bool (Rf.bare s).2])∧Fr w w':=by
 cases s with
 | nil=>exact rbare_no ⟨#[]⟩ w rfl
 | cons c r=>
  have h0:0<(⟨(c::r).toArray⟩:ByteArray).size:=by rw [ba_size];simp
  have hsz:(⟨(c::r).toArray⟩:ByteArray).size≤140737488351232:=by rw [ba_size];omega
  by_cases hc:c=35
  ·subst hc
   have h:=rbare_yes ⟨(35::r).toArray⟩ w h0 rfl hsz
   rw [ba_tail] at h
   exact h
  ·have h:=rbare_other ⟨(c::r).toArray⟩ w c h0 rfl (by
    rw [beq_eq_false_iff_ne];intro e
    exact hc (UInt8.toNat_inj.1 (by show c.toNat=35;omega))) (by rw [beq_eq_false_iff_ne];exact hc) hsz
   have hb:Rf.bare (c::r)=(c::r,false):=by show (if c=35 then _ else _)=_;rw [if_neg hc]
   rw [hb]
   exact h
def kind6:Nat→List UInt8 × List Rf.Kind
 | 0=>([97,99,99,111,117,110,116,73,100,58,105,32,105,100,115,58,108,32,112,114,111,112,101,114,116,105,101,115,58,116],[([97,99,99,111,117,110,116,73,100],105),([105,100,115],108),([112,114,111,112,101,114,116,105,101,115],116)])
 | 1=>([97,58,115,32,98,58,118,32,99,58,73],[([97],115),([98],118),([99],73)])
 | 2=>([97,58,83,32,98,58,86,32,99,58,119],[([97],83),([98],86),([99],119)])
 | 3=>([105,100,115,58,114,32,110,58,110,32,112,58,112],[([105,100,115],114),([110],110),([112],112)])
 | 4=>([97,58,122,32,98,58,98],[([97],122),([98],98)])
 | _=>([97,99,99,111,117,110,116,73,100,58,105,32,115,105,110,99,101,83,116,97,116,101,58,115,32,109,97,120,67,104,97,110,103,101,115,58,112],[([97,99,99,111,117,110,116,73,100],105),([115,105,110,99,101,83,116,97,116,101],115),([109,97,120,67,104,97,110,103,101,115],112)])
theorem kind6_ok (k:Nat):KsOk (kind6 k).1 (kind6 k).2∧Rf.spl [] (kind6 k).1=(kind6 k).2.map Rf.wordOf:=by
 match k with
 | 0=>exact ⟨⟨by kernel_rfl,by decide +kernel,by decide +kernel,by decide +kernel,by decide,by decide,by decide⟩,by kernel_rfl⟩
 | 1=>exact ⟨⟨by kernel_rfl,by decide +kernel,by decide +kernel,by decide +kernel,by decide,by decide,by decide⟩,by kernel_rfl⟩
 | 2=>exact ⟨⟨by kernel_rfl,by decide +kernel,by decide +kernel,by decide +kernel,by decide,by decide,by decide⟩,by kernel_rfl⟩
 | 3=>exact ⟨⟨by kernel_rfl,by decide +kernel,by decide +kernel,by decide +kernel,by decide,by decide,by decide⟩,by kernel_rfl⟩
 | 4=>exact ⟨⟨by kernel_rfl,by decide +kernel,by decide +kernel,by decide +kernel,by decide,by decide,by decide⟩,by kernel_rfl⟩
 | n+5=>
  have h:kind6 (n+5)=kind6 5:=rfl
  rw [h]
  exact ⟨⟨by kernel_rfl,by decide +kernel,by decide +kernel,by decide +kernel,by decide,by decide,by decide⟩,by kernel_rfl⟩
theorem kinds_is (n:Nat) (hn:n≤255) (w:World):
  Calls Tryz.prog 10 #[.int .u8 (n:Nat)] w fun e w'=>e=.returned (.string ⟨(kind6 (n % 6)).1.toArray⟩)∧Fr w w':=by
 obtain ⟨k,hk⟩:∃ k,n % 6=k:=⟨_,rfl⟩
 have hwn:IntKind.i64.wrap (n:Int)=(n:Int):=by rw [IntKind.wrap_i64];omega
 have hn3:(n:Int)≤255:=by omega
 have hkt:Int.tmod (n:Int) 6=(k:Int):=by rw [Int.tmod_eq_emod_of_nonneg (by omega)];omega
 rw [hk]
 rcases (by omega:k=0∨k=1∨k=2∨k=3∨k=4∨k=5) with rfl | rfl | rfl | rfl | rfl | rfl
 all_goals
  clear hk
  go_enter Tryz.func10,Tryz.ntmps10
  go_wp2_with fail
  go_ret
  exact ⟨rfl,(Fr.refl w).alloc _⟩
/- The document's may. -/

theorem rist_is (s:List UInt8) (w:World) (hs:s.length≤1048576):Calls Tryz.prog 59 #[.string ⟨s.toArray⟩] w fun e w'=>e=.returned (.bool (Idn.isId s))∧Fr w w':=by
 have h:=ris_id_any ⟨s.toArray⟩ w (by show s.toArray.size≤_;rw [List.size_toArray];exact Nat.le_trans hs (by decide))
 rw [show (⟨s.toArray⟩:ByteArray).data.toList=s by simp] at h
 exact h.mono (by rintro e w' ⟨rfl,rfl⟩;exact ⟨rfl,Fr.refl _⟩)
theorem rmay105_is (v:JV) (B:Option Addr) (d:Nat) (B':Option Addr) (d':Nat) (w:World) (hv:InV w (Lo w.heap.size) v (vA v B d B' d')) (hb:JV.bulk v≤1048576):
  Calls Tryz.prog 34 #[.int .u8 105,.agg #[.int .i64 v.kd,.int .i64 v.nm,.string ⟨v.tx.toArray⟩,.slice B v.ls.length d,.slice B' v.ms.length d']] w fun e w'=>e=.returned (.bool (Rf.may 105 v))∧Fr w w':=by
 have hbe:=Rf.bulk_eq v
 have htx:v.tx.length≤1048576:=by omega
 obtain ⟨ib,hib⟩:∃ b,Idn.isId v.tx=b:=⟨_,rfl⟩
 have HIS:Hid (∀ W,Calls Tryz.prog 59 #[.string ⟨v.tx.toArray⟩] W fun e w'=>e=.returned (.bool ib)∧Fr W w'):=Lib.hid (fun W=>by rw [← hib];exact rist_is v.tx W htx)
 have HIB:=Lib.hid hib
 clear hib
 obtain ⟨r,hr⟩:∃ r,Rf.may 105 v=r:=⟨_,rfl⟩
 rw [hr]
 have HR:=Lib.hid hr
 clear hv hb hbe htx hr
 have hf0:Fr w (w.alloc (.cells #[.int .i64 v.kd,.int .i64 v.nm,.string ⟨v.tx.toArray⟩,.slice B v.ls.length d,.slice B' v.ms.length d'] 25)):=(Fr.refl w).alloc _
 have hx0:Blk (w.alloc (.cells #[.int .i64 v.kd,.int .i64 v.nm,.string ⟨v.tx.toArray⟩,.slice B v.ls.length d,.slice B' v.ms.length d'] 25)) w.heap.size #[.int .i64 v.kd,.int .i64 v.nm,.string ⟨v.tx.toArray⟩,.slice B v.ls.length d,.slice B' v.ms.length d'] 25:=Blk.made w _ _
 have HF0:=Lib.hid hf0
 obtain ⟨⟨x0,x1,x2,x3,x4⟩,_⟩:=box5 hx0
 clear hf0 hx0
 by_cases h1:v.kd=1
 ·have e1:(v.kd == 1)=true:=by rw [beq_iff_eq];exact h1
  have e2:(v.kd == 4)=false:=by rw [h1];rfl
  have H1:=Lib.hid h1
  clear h1
  go_enter Tryz.func34,Tryz.ntmps34
  go_wp2_with fail
  go_ret
  exact ⟨by rw [← HR.out];simp [Rf.may,H1.out],HF0.out⟩
 ·have e1:(v.kd == 1)=false:=by rw [beq_eq_false_iff_ne];exact h1
  by_cases h2:v.kd=4
  ·have e2:(v.kd == 4)=true:=by rw [beq_iff_eq];exact h2
   have H1:=Lib.hid h1
   clear h1
   have H2:=Lib.hid h2
   clear h2
   go_enter Tryz.func34,Tryz.ntmps34
   go_wp2_with (go_at_call 59;refine (HIS.out _).mono ?_;rintro e w2 ⟨rfl,hf⟩;have HF2:=Lib.hid (HF0.out.trans hf);clear hf)
   go_ret
   exact ⟨by rw [← HR.out];simp [Rf.may,H1.out,H2.out,HIB.out],HF2.out⟩
  ·have e2:(v.kd == 4)=false:=by rw [beq_eq_false_iff_ne];exact h2
   have H1:=Lib.hid h1
   clear h1
   have H2:=Lib.hid h2
   clear h2
   go_enter Tryz.func34,Tryz.ntmps34
   go_wp2_with fail
   go_ret
   exact ⟨by rw [← HR.out];simp [Rf.may,H1.out,H2.out],HF0.out⟩
theorem rmay73_is (v:JV) (B:Option Addr) (d:Nat) (B':Option Addr) (d':Nat) (w:World) (hv:InV w (Lo w.heap.size) v (vA v B d B' d')) (hb:JV.bulk v≤1048576):
  Calls Tryz.prog 34 #[.int .u8 73,.agg #[.int .i64 v.kd,.int .i64 v.nm,.string ⟨v.tx.toArray⟩,.slice B v.ls.length d,.slice B' v.ms.length d']] w fun e w'=>e=.returned (.bool (Rf.may 73 v))∧Fr w w':=by
 have hbe:=Rf.bulk_eq v
 have htx:v.tx.length≤1048576:=by omega
 obtain ⟨ib,hib⟩:∃ b,Idn.isId v.tx=b:=⟨_,rfl⟩
 have HIS:Hid (∀ W,Calls Tryz.prog 59 #[.string ⟨v.tx.toArray⟩] W fun e w'=>e=.returned (.bool ib)∧Fr W w'):=Lib.hid (fun W=>by rw [← hib];exact rist_is v.tx W htx)
 have HIB:=Lib.hid hib
 clear hib
 obtain ⟨r,hr⟩:∃ r,Rf.may 73 v=r:=⟨_,rfl⟩
 rw [hr]
 have HR:=Lib.hid hr
 clear hv hb hbe htx hr
 have hf0:Fr w (w.alloc (.cells #[.int .i64 v.kd,.int .i64 v.nm,.string ⟨v.tx.toArray⟩,.slice B v.ls.length d,.slice B' v.ms.length d'] 25)):=(Fr.refl w).alloc _
 have hx0:Blk (w.alloc (.cells #[.int .i64 v.kd,.int .i64 v.nm,.string ⟨v.tx.toArray⟩,.slice B v.ls.length d,.slice B' v.ms.length d'] 25)) w.heap.size #[.int .i64 v.kd,.int .i64 v.nm,.string ⟨v.tx.toArray⟩,.slice B v.ls.length d,.slice B' v.ms.length d'] 25:=Blk.made w _ _
 have HF0:=Lib.hid hf0
 obtain ⟨⟨x0,x1,x2,x3,x4⟩,_⟩:=box5 hx0
 clear hf0 hx0
 by_cases h1:v.kd=1
 ·have e1:(v.kd == 1)=true:=by rw [beq_iff_eq];exact h1
  have e2:(v.kd == 4)=false:=by rw [h1];rfl
  have H1:=Lib.hid h1
  clear h1
  go_enter Tryz.func34,Tryz.ntmps34
  go_wp2_with fail
  go_ret
  exact ⟨by rw [← HR.out];simp [Rf.may,H1.out],HF0.out⟩
 ·have e1:(v.kd == 1)=false:=by rw [beq_eq_false_iff_ne];exact h1
  by_cases h2:v.kd=4
  ·have e2:(v.kd == 4)=true:=by rw [beq_iff_eq];exact h2
   have H1:=Lib.hid h1
   clear h1
   have H2:=Lib.hid h2
   clear h2
   go_enter Tryz.func34,Tryz.ntmps34
   go_wp2_with (go_at_call 59;refine (HIS.out _).mono ?_;rintro e w2 ⟨rfl,hf⟩;have HF2:=Lib.hid (HF0.out.trans hf);clear hf)
   go_ret
   exact ⟨by rw [← HR.out];simp [Rf.may,H1.out,H2.out,HIB.out],HF2.out⟩
  ·have e2:(v.kd == 4)=false:=by rw [beq_eq_false_iff_ne];exact h2
   have H1:=Lib.hid h1
   clear h1
   have H2:=Lib.hid h2
   clear h2
   go_enter Tryz.func34,Tryz.ntmps34
   go_wp2_with fail
   go_ret
   exact ⟨by rw [← HR.out];simp [Rf.may,H1.out,H2.out],HF0.out⟩
theorem rmay115_is (v:JV) (B:Option Addr) (d:Nat) (B':Option Addr) (d':Nat) (w:World) (hv:InV w (Lo w.heap.size) v (vA v B d B' d')) (hb:JV.bulk v≤1048576):
  Calls Tryz.prog 34 #[.int .u8 115,.agg #[.int .i64 v.kd,.int .i64 v.nm,.string ⟨v.tx.toArray⟩,.slice B v.ls.length d,.slice B' v.ms.length d']] w fun e w'=>e=.returned (.bool (Rf.may 115 v))∧Fr w w':=by
 have hbe:=Rf.bulk_eq v
 have htx:v.tx.length≤1048576:=by omega
 obtain ⟨r,hr⟩:∃ r,Rf.may 115 v=r:=⟨_,rfl⟩
 rw [hr]
 have HR:=Lib.hid hr
 clear hv hb hbe htx hr
 have hf0:Fr w (w.alloc (.cells #[.int .i64 v.kd,.int .i64 v.nm,.string ⟨v.tx.toArray⟩,.slice B v.ls.length d,.slice B' v.ms.length d'] 25)):=(Fr.refl w).alloc _
 have hx0:Blk (w.alloc (.cells #[.int .i64 v.kd,.int .i64 v.nm,.string ⟨v.tx.toArray⟩,.slice B v.ls.length d,.slice B' v.ms.length d'] 25)) w.heap.size #[.int .i64 v.kd,.int .i64 v.nm,.string ⟨v.tx.toArray⟩,.slice B v.ls.length d,.slice B' v.ms.length d'] 25:=Blk.made w _ _
 have HF0:=Lib.hid hf0
 obtain ⟨⟨x0,x1,x2,x3,x4⟩,_⟩:=box5 hx0
 clear hf0 hx0
 by_cases h1:v.kd=1
 ·have e1:(v.kd == 1)=true:=by rw [beq_iff_eq];exact h1
  have e2:(v.kd == 4)=false:=by rw [h1];rfl
  have H1:=Lib.hid h1
  clear h1
  go_enter Tryz.func34,Tryz.ntmps34
  go_wp2_with fail
  go_ret
  exact ⟨by rw [← HR.out];simp [Rf.may,H1.out],HF0.out⟩
 ·have e1:(v.kd == 1)=false:=by rw [beq_eq_false_iff_ne];exact h1
  by_cases h2:v.kd=4
  ·have e2:(v.kd == 4)=true:=by rw [beq_iff_eq];exact h2
   have H1:=Lib.hid h1
   clear h1
   have H2:=Lib.hid h2
   clear h2
   go_enter Tryz.func34,Tryz.ntmps34
   go_wp2_with fail
   go_ret
   exact ⟨by rw [← HR.out];simp [Rf.may,H1.out,H2.out],HF0.out⟩
  ·have e2:(v.kd == 4)=false:=by rw [beq_eq_false_iff_ne];exact h2
   have H1:=Lib.hid h1
   clear h1
   have H2:=Lib.hid h2
   clear h2
   go_enter Tryz.func34,Tryz.ntmps34
   go_wp2_with fail
   go_ret
   exact ⟨by rw [← HR.out];simp [Rf.may,H1.out,H2.out],HF0.out⟩
theorem rmay83_is (v:JV) (B:Option Addr) (d:Nat) (B':Option Addr) (d':Nat) (w:World) (hv:InV w (Lo w.heap.size) v (vA v B d B' d')) (hb:JV.bulk v≤1048576):
  Calls Tryz.prog 34 #[.int .u8 83,.agg #[.int .i64 v.kd,.int .i64 v.nm,.string ⟨v.tx.toArray⟩,.slice B v.ls.length d,.slice B' v.ms.length d']] w fun e w'=>e=.returned (.bool (Rf.may 83 v))∧Fr w w':=by
 have hbe:=Rf.bulk_eq v
 have htx:v.tx.length≤1048576:=by omega
 obtain ⟨r,hr⟩:∃ r,Rf.may 83 v=r:=⟨_,rfl⟩
 rw [hr]
 have HR:=Lib.hid hr
 clear hv hb hbe htx hr
 have hf0:Fr w (w.alloc (.cells #[.int .i64 v.kd,.int .i64 v.nm,.string ⟨v.tx.toArray⟩,.slice B v.ls.length d,.slice B' v.ms.length d'] 25)):=(Fr.refl w).alloc _
 have hx0:Blk (w.alloc (.cells #[.int .i64 v.kd,.int .i64 v.nm,.string ⟨v.tx.toArray⟩,.slice B v.ls.length d,.slice B' v.ms.length d'] 25)) w.heap.size #[.int .i64 v.kd,.int .i64 v.nm,.string ⟨v.tx.toArray⟩,.slice B v.ls.length d,.slice B' v.ms.length d'] 25:=Blk.made w _ _
 have HF0:=Lib.hid hf0
 obtain ⟨⟨x0,x1,x2,x3,x4⟩,_⟩:=box5 hx0
 clear hf0 hx0
 by_cases h1:v.kd=1
 ·have e1:(v.kd == 1)=true:=by rw [beq_iff_eq];exact h1
  have e2:(v.kd == 4)=false:=by rw [h1];rfl
  have H1:=Lib.hid h1
  clear h1
  go_enter Tryz.func34,Tryz.ntmps34
  go_wp2_with fail
  go_ret
  exact ⟨by rw [← HR.out];simp [Rf.may,H1.out],HF0.out⟩
 ·have e1:(v.kd == 1)=false:=by rw [beq_eq_false_iff_ne];exact h1
  by_cases h2:v.kd=4
  ·have e2:(v.kd == 4)=true:=by rw [beq_iff_eq];exact h2
   have H1:=Lib.hid h1
   clear h1
   have H2:=Lib.hid h2
   clear h2
   go_enter Tryz.func34,Tryz.ntmps34
   go_wp2_with fail
   go_ret
   exact ⟨by rw [← HR.out];simp [Rf.may,H1.out,H2.out],HF0.out⟩
  ·have e2:(v.kd == 4)=false:=by rw [beq_eq_false_iff_ne];exact h2
   have H1:=Lib.hid h1
   clear h1
   have H2:=Lib.hid h2
   clear h2
   go_enter Tryz.func34,Tryz.ntmps34
   go_wp2_with fail
   go_ret
   exact ⟨by rw [← HR.out];simp [Rf.may,H1.out,H2.out],HF0.out⟩
theorem rmay118_is (v:JV) (B:Option Addr) (d:Nat) (B':Option Addr) (d':Nat) (w:World) (hv:InV w (Lo w.heap.size) v (vA v B d B' d')) (hb:JV.bulk v≤1048576):
  Calls Tryz.prog 34 #[.int .u8 118,.agg #[.int .i64 v.kd,.int .i64 v.nm,.string ⟨v.tx.toArray⟩,.slice B v.ls.length d,.slice B' v.ms.length d']] w fun e w'=>e=.returned (.bool (Rf.may 118 v))∧Fr w w':=by
 have hbe:=Rf.bulk_eq v
 have htx:v.tx.length≤1048576:=by omega
 obtain ⟨r,hr⟩:∃ r,Rf.may 118 v=r:=⟨_,rfl⟩
 rw [hr]
 have HR:=Lib.hid hr
 clear hv hb hbe htx hr
 have hf0:Fr w (w.alloc (.cells #[.int .i64 v.kd,.int .i64 v.nm,.string ⟨v.tx.toArray⟩,.slice B v.ls.length d,.slice B' v.ms.length d'] 25)):=(Fr.refl w).alloc _
 have hx0:Blk (w.alloc (.cells #[.int .i64 v.kd,.int .i64 v.nm,.string ⟨v.tx.toArray⟩,.slice B v.ls.length d,.slice B' v.ms.length d'] 25)) w.heap.size #[.int .i64 v.kd,.int .i64 v.nm,.string ⟨v.tx.toArray⟩,.slice B v.ls.length d,.slice B' v.ms.length d'] 25:=Blk.made w _ _
 have HF0:=Lib.hid hf0
 obtain ⟨⟨x0,x1,x2,x3,x4⟩,_⟩:=box5 hx0
 clear hf0 hx0
 by_cases h1:v.kd=1
 ·have e1:(v.kd == 1)=true:=by rw [beq_iff_eq];exact h1
  have e2:(v.kd == 6)=false:=by rw [h1];rfl
  have H1:=Lib.hid h1
  clear h1
  go_enter Tryz.func34,Tryz.ntmps34
  go_wp2_with fail
  go_ret
  exact ⟨by rw [← HR.out];simp [Rf.may,H1.out],HF0.out⟩
 ·have e1:(v.kd == 1)=false:=by rw [beq_eq_false_iff_ne];exact h1
  by_cases h2:v.kd=6
  ·have e2:(v.kd == 6)=true:=by rw [beq_iff_eq];exact h2
   have H1:=Lib.hid h1
   clear h1
   have H2:=Lib.hid h2
   clear h2
   go_enter Tryz.func34,Tryz.ntmps34
   go_wp2_with fail
   go_ret
   exact ⟨by rw [← HR.out];simp [Rf.may,H1.out,H2.out],HF0.out⟩
  ·have e2:(v.kd == 6)=false:=by rw [beq_eq_false_iff_ne];exact h2
   have H1:=Lib.hid h1
   clear h1
   have H2:=Lib.hid h2
   clear h2
   go_enter Tryz.func34,Tryz.ntmps34
   go_wp2_with fail
   go_ret
   exact ⟨by rw [← HR.out];simp [Rf.may,H1.out,H2.out],HF0.out⟩
theorem rmay86_is (v:JV) (B:Option Addr) (d:Nat) (B':Option Addr) (d':Nat) (w:World) (hv:InV w (Lo w.heap.size) v (vA v B d B' d')) (hb:JV.bulk v≤1048576):
  Calls Tryz.prog 34 #[.int .u8 86,.agg #[.int .i64 v.kd,.int .i64 v.nm,.string ⟨v.tx.toArray⟩,.slice B v.ls.length d,.slice B' v.ms.length d']] w fun e w'=>e=.returned (.bool (Rf.may 86 v))∧Fr w w':=by
 have hbe:=Rf.bulk_eq v
 have htx:v.tx.length≤1048576:=by omega
 obtain ⟨r,hr⟩:∃ r,Rf.may 86 v=r:=⟨_,rfl⟩
 rw [hr]
 have HR:=Lib.hid hr
 clear hv hb hbe htx hr
 have hf0:Fr w (w.alloc (.cells #[.int .i64 v.kd,.int .i64 v.nm,.string ⟨v.tx.toArray⟩,.slice B v.ls.length d,.slice B' v.ms.length d'] 25)):=(Fr.refl w).alloc _
 have hx0:Blk (w.alloc (.cells #[.int .i64 v.kd,.int .i64 v.nm,.string ⟨v.tx.toArray⟩,.slice B v.ls.length d,.slice B' v.ms.length d'] 25)) w.heap.size #[.int .i64 v.kd,.int .i64 v.nm,.string ⟨v.tx.toArray⟩,.slice B v.ls.length d,.slice B' v.ms.length d'] 25:=Blk.made w _ _
 have HF0:=Lib.hid hf0
 obtain ⟨⟨x0,x1,x2,x3,x4⟩,_⟩:=box5 hx0
 clear hf0 hx0
 by_cases h1:v.kd=1
 ·have e1:(v.kd == 1)=true:=by rw [beq_iff_eq];exact h1
  have e2:(v.kd == 6)=false:=by rw [h1];rfl
  have H1:=Lib.hid h1
  clear h1
  go_enter Tryz.func34,Tryz.ntmps34
  go_wp2_with fail
  go_ret
  exact ⟨by rw [← HR.out];simp [Rf.may,H1.out],HF0.out⟩
 ·have e1:(v.kd == 1)=false:=by rw [beq_eq_false_iff_ne];exact h1
  by_cases h2:v.kd=6
  ·have e2:(v.kd == 6)=true:=by rw [beq_iff_eq];exact h2
   have H1:=Lib.hid h1
   clear h1
   have H2:=Lib.hid h2
   clear h2
   go_enter Tryz.func34,Tryz.ntmps34
   go_wp2_with fail
   go_ret
   exact ⟨by rw [← HR.out];simp [Rf.may,H1.out,H2.out],HF0.out⟩
  ·have e2:(v.kd == 6)=false:=by rw [beq_eq_false_iff_ne];exact h2
   have H1:=Lib.hid h1
   clear h1
   have H2:=Lib.hid h2
   clear h2
   go_enter Tryz.func34,Tryz.ntmps34
   go_wp2_with fail
   go_ret
   exact ⟨by rw [← HR.out];simp [Rf.may,H1.out,H2.out],HF0.out⟩
theorem rmay119_is (v:JV) (B:Option Addr) (d:Nat) (B':Option Addr) (d':Nat) (w:World) (hv:InV w (Lo w.heap.size) v (vA v B d B' d')) (hb:JV.bulk v≤1048576):
  Calls Tryz.prog 34 #[.int .u8 119,.agg #[.int .i64 v.kd,.int .i64 v.nm,.string ⟨v.tx.toArray⟩,.slice B v.ls.length d,.slice B' v.ms.length d']] w fun e w'=>e=.returned (.bool (Rf.may 119 v))∧Fr w w':=by
 have hbe:=Rf.bulk_eq v
 have htx:v.tx.length≤1048576:=by omega
 obtain ⟨r,hr⟩:∃ r,Rf.may 119 v=r:=⟨_,rfl⟩
 rw [hr]
 have HR:=Lib.hid hr
 clear hv hb hbe htx hr
 have hf0:Fr w (w.alloc (.cells #[.int .i64 v.kd,.int .i64 v.nm,.string ⟨v.tx.toArray⟩,.slice B v.ls.length d,.slice B' v.ms.length d'] 25)):=(Fr.refl w).alloc _
 have hx0:Blk (w.alloc (.cells #[.int .i64 v.kd,.int .i64 v.nm,.string ⟨v.tx.toArray⟩,.slice B v.ls.length d,.slice B' v.ms.length d'] 25)) w.heap.size #[.int .i64 v.kd,.int .i64 v.nm,.string ⟨v.tx.toArray⟩,.slice B v.ls.length d,.slice B' v.ms.length d'] 25:=Blk.made w _ _
 have HF0:=Lib.hid hf0
 obtain ⟨⟨x0,x1,x2,x3,x4⟩,_⟩:=box5 hx0
 clear hf0 hx0
 by_cases h1:v.kd=1
 ·have e1:(v.kd == 1)=true:=by rw [beq_iff_eq];exact h1
  have H1:=Lib.hid h1
  clear h1
  go_enter Tryz.func34,Tryz.ntmps34
  go_wp2_with fail
  go_ret
  exact ⟨by rw [← HR.out];simp [Rf.may,H1.out],HF0.out⟩
 ·have e1:(v.kd == 1)=false:=by rw [beq_eq_false_iff_ne];exact h1
  have H1:=Lib.hid h1
  clear h1
  go_enter Tryz.func34,Tryz.ntmps34
  go_wp2_with fail
  go_ret
  exact ⟨by rw [← HR.out];simp [Rf.may,H1.out],HF0.out⟩
theorem rmay108_is (v:JV) (B:Option Addr) (d:Nat) (B':Option Addr) (d':Nat) (w:World) (hv:InV w (Lo w.heap.size) v (vA v B d B' d')) (hb:JV.bulk v≤1048576):
  Calls Tryz.prog 34 #[.int .u8 108,.agg #[.int .i64 v.kd,.int .i64 v.nm,.string ⟨v.tx.toArray⟩,.slice B v.ls.length d,.slice B' v.ms.length d']] w fun e w'=>e=.returned (.bool (Rf.may 108 v))∧Fr w w':=by
 have hbe:=Rf.bulk_eq v
 have htx:v.tx.length≤1048576:=by omega
 have hls:LsC w (Lo w.heap.size) B v.ls:=by
  obtain ⟨Q,q,Q',q',he,hls,_⟩:=hv.open_
  have hA:B=Q:=by obtain ⟨_,_,_,e3,_⟩:=five he;injection e3
  rw [hA];exact hls
 have hll:=Rf.bigL_len v.ls
 have hll2:(v.ls.length:Int)≤1048576:=by omega
 have HLS:=Lib.hid hls
 have HSX:Hid (∀ x∈v.ls,x.tx.length≤1048576):=Lib.hid (fun x hx=>by have h1:=Rf.bigL_mem hx;have h2:=Rf.bulk_eq x;omega)
 have HIS:Hid (∀ (s:List UInt8) W,s.length≤1048576→Calls Tryz.prog 59 #[.string ⟨s.toArray⟩] W fun e w'=>e=.returned (.bool (Idn.isId s))∧Fr W w'):=Lib.hid (fun s W hs=>rist_is s W hs)
 clear hls hll
 obtain ⟨r,hr⟩:∃ r,Rf.may 108 v=r:=⟨_,rfl⟩
 rw [hr]
 have HR:=Lib.hid hr
 clear hv hb hbe htx hr
 have hf0:Fr w (w.alloc (.cells #[.int .i64 v.kd,.int .i64 v.nm,.string ⟨v.tx.toArray⟩,.slice B v.ls.length d,.slice B' v.ms.length d'] 25)):=(Fr.refl w).alloc _
 have hx0:Blk (w.alloc (.cells #[.int .i64 v.kd,.int .i64 v.nm,.string ⟨v.tx.toArray⟩,.slice B v.ls.length d,.slice B' v.ms.length d'] 25)) w.heap.size #[.int .i64 v.kd,.int .i64 v.nm,.string ⟨v.tx.toArray⟩,.slice B v.ls.length d,.slice B' v.ms.length d'] 25:=Blk.made w _ _
 have HF0:=Lib.hid hf0
 by_cases h1:v.kd=1
 ·have e1:(v.kd == 1)=true:=by rw [beq_iff_eq];exact h1
  obtain ⟨⟨x0,x1,x2,x3,x4⟩,_⟩:=box5 hx0
  clear hf0 hx0
  have H1:=Lib.hid h1
  clear h1
  go_enter Tryz.func34,Tryz.ntmps34
  go_wp2_with fail
  go_ret
  exact ⟨by rw [← HR.out];simp [Rf.may,H1.out],HF0.out⟩
 ·have e1:(v.kd == 1)=false:=by rw [beq_eq_false_iff_ne];exact h1
  by_cases h2:v.kd=5
  ·have e2:(v.kd != 5)=false:=by rw [h2];rfl
   have H1:=Lib.hid h1
   have H2:=Lib.hid h2
   clear h1 h2
   go_enter Tryz.func34,Tryz.ntmps34
   go_upto_region 1 with fail
   generalize (w.alloc (.cells #[.int .i64 v.kd,.int .i64 v.nm,.string ⟨v.tx.toArray⟩,.slice B v.ls.length d,.slice B' v.ms.length d'] 25))=W0 at hf0 hx0 HF0 ⊢
   generalize w.heap.size=X3 at hx0 ⊢
   have HX0:=Lib.hid hx0
   obtain ⟨⟨x0,x1,x2,x3,x4⟩,_⟩:=box5 hx0
   clear hf0 hx0
   go_upto_region 26 with fail
   clear x0 x1 x2 x3 x4
   go_loopw [5,6] (fun j s wr=>∃ i:Nat,i≤v.ls.length∧j=.int .i64 i∧Hid (∀ y (hy:y<v.ls.length),y<i→Rf.goodB 108 v.ls[y]=true)∧Hid (Fr W0 wr)) (fun j _ _=>v.ls.length - (intOf j).toNat)
   case atStart=>exact ⟨0,by omega,rfl,Lib.hid (fun y _ h=>absurd h (by omega)),Lib.hid (Fr.refl _)⟩
   case round=>
    obtain ⟨i,hi,rfl,hO,hF⟩:=hrel
    obtain ⟨⟨x0,x1,x2,x3,x4⟩,_⟩:=box5 (HX0.out.keep hF.out)
    by_cases hlt:i<v.ls.length
    ·have hlt':(i:Int)<(v.ls.length:Int):=by omega
     have h0i:(0:Int)≤(i:Int):=by omega
     obtain ⟨b,o,C,e,C',e',rfl,hb,⟨k1,k2,k3,k4,k5⟩,_⟩:=(HLS.out.keep (Nat.le_refl _) (HF0.out.trans hF.out)) i hlt
     have hsx:=HSX.out v.ls[i] (List.getElem_mem hlt)
     obtain ⟨x,hx⟩:∃ u,v.ls[i]=u:=⟨_,rfl⟩
     rw [hx] at k1 k2 k3 k4 k5 hsx
     have HXI:=Lib.hid hx
     have HXL:=Lib.hid hsx
     have HL1:=Lib.hid k1
     have HBW:Hid (b<wr.heap.size):=Lib.hid (Nat.lt_of_lt_of_le hb (HF0.out.trans hF.out).size)
     obtain ⟨bn,hbn⟩:∃ q,x.tx=q:=⟨_,rfl⟩
     have HBL:Hid (bn.length≤1048576):=Lib.hid (by rw [← hbn];exact hsx)
     obtain ⟨ib,hib⟩:∃ q,Idn.isId bn=q:=⟨_,rfl⟩
     have HIB:=Lib.hid hib
     have HBN:=Lib.hid hbn
     have hgood:Rf.goodB 108 x=(decide (x.kd=4) && ib):=by
      unfold Rf.goodB Rf.isB
      rw [if_pos rfl,← hib,← hbn]
     rw [hbn] at k3
     clear hb hx hsx hbn hib
     by_cases h4:x.kd=4
     ·have e4:(x.kd != 4)=false:=by rw [h4];rfl
      have HG:Hid (Rf.goodB 108 x=ib):=Lib.hid (by rw [hgood,h4];rfl)
      clear hgood h4
      cases ib
      ·go_wp2_with (go_at_call 59;refine (HIS.out bn _ HBL.out).mono ?_;rw [HIB.out];rintro e w3 ⟨rfl,hf⟩;have HF3:=Lib.hid (hF.out.trans hf);obtain ⟨⟨q0,q1,q2,q3,q4⟩,_⟩:=box5 (HX0.out.keep HF3.out);clear hf)
       go_ret
       exact ⟨by rw [← HR.out];simp [Rf.may,H1.out,H2.out,Rf.textsB];exact ⟨v.ls[i],List.getElem_mem hlt,by rw [HXI.out];exact HG.out⟩,HF0.out.trans HF3.out⟩
      ·go_wp2_with (go_at_call 59;refine (HIS.out bn _ HBL.out).mono ?_;rw [HIB.out];rintro e w3 ⟨rfl,hf⟩;have HF3:=Lib.hid (hF.out.trans hf);obtain ⟨⟨q0,q1,q2,q3,q4⟩,_⟩:=box5 (HX0.out.keep HF3.out);clear hf)
       exact ⟨⟨i+1,by omega,by go_num,Lib.hid (fun y hy hyt=>by
        by_cases e:y=i
        ·subst e;rw [HXI.out];exact HG.out
        ·exact hO.out y hy (by omega)),HF3⟩,by simp [intOf];omega⟩
     ·have e4:(x.kd != 4)=true:=by rw [bne_iff_ne];exact h4
      have HG:Hid (Rf.goodB 108 x=false):=Lib.hid (by rw [hgood];simp [h4])
      clear hgood h4
      go_wp2_with fail
      go_ret
      exact ⟨by rw [← HR.out];simp [Rf.may,H1.out,H2.out,Rf.textsB];exact ⟨v.ls[i],List.getElem_mem hlt,by rw [HXI.out];exact HG.out⟩,HF0.out.trans hF.out⟩
    ·obtain rfl:i=v.ls.length:=by omega
     have HALL:Hid (v.ls.all (Rf.goodB 108)=true):=Lib.hid (by rw [List.all_eq_true];intro x hx;obtain ⟨y,hy,rfl⟩:=List.mem_iff_getElem.1 hx;exact hO.out y hy hy)
     have HRT:Hid (r=true):=Lib.hid (by rw [← HR.out];unfold Rf.may Rf.textsB;rw [HALL.out,H2.out];rfl)
     go_wp2_with fail
     go_ret
     exact ⟨by rw [HRT.out];rfl,HF0.out.trans hF.out⟩
  ·have e2:(v.kd != 5)=true:=by rw [bne_iff_ne];exact h2
   obtain ⟨⟨x0,x1,x2,x3,x4⟩,_⟩:=box5 hx0
   clear hf0 hx0
   have H1:=Lib.hid h1
   clear h1
   have H2:=Lib.hid h2
   clear h2
   go_enter Tryz.func34,Tryz.ntmps34
   go_wp2_with fail
   go_ret
   exact ⟨by rw [← HR.out];simp [Rf.may,H1.out,H2.out,Rf.textsB],HF0.out⟩
theorem rmay114_is (v:JV) (B:Option Addr) (d:Nat) (B':Option Addr) (d':Nat) (w:World) (hv:InV w (Lo w.heap.size) v (vA v B d B' d')) (hb:JV.bulk v≤1048576):
  Calls Tryz.prog 34 #[.int .u8 114,.agg #[.int .i64 v.kd,.int .i64 v.nm,.string ⟨v.tx.toArray⟩,.slice B v.ls.length d,.slice B' v.ms.length d']] w fun e w'=>e=.returned (.bool (Rf.may 114 v))∧Fr w w':=by
 have hbe:=Rf.bulk_eq v
 have htx:v.tx.length≤1048576:=by omega
 have hls:LsC w (Lo w.heap.size) B v.ls:=by
  obtain ⟨Q,q,Q',q',he,hls,_⟩:=hv.open_
  have hA:B=Q:=by obtain ⟨_,_,_,e3,_⟩:=five he;injection e3
  rw [hA];exact hls
 have hll:=Rf.bigL_len v.ls
 have hll2:(v.ls.length:Int)≤1048576:=by omega
 have HLS:=Lib.hid hls
 have HSX:Hid (∀ x∈v.ls,x.tx.length≤1048576):=Lib.hid (fun x hx=>by have h1:=Rf.bigL_mem hx;have h2:=Rf.bulk_eq x;omega)
 have HIS:Hid (∀ (s:List UInt8) W,s.length≤1048576→Calls Tryz.prog 59 #[.string ⟨s.toArray⟩] W fun e w'=>e=.returned (.bool (Idn.isId s))∧Fr W w'):=Lib.hid (fun s W hs=>rist_is s W hs)
 clear hls hll
 obtain ⟨r,hr⟩:∃ r,Rf.may 114 v=r:=⟨_,rfl⟩
 rw [hr]
 have HR:=Lib.hid hr
 clear hv hb hbe htx hr
 have hf0:Fr w (w.alloc (.cells #[.int .i64 v.kd,.int .i64 v.nm,.string ⟨v.tx.toArray⟩,.slice B v.ls.length d,.slice B' v.ms.length d'] 25)):=(Fr.refl w).alloc _
 have hx0:Blk (w.alloc (.cells #[.int .i64 v.kd,.int .i64 v.nm,.string ⟨v.tx.toArray⟩,.slice B v.ls.length d,.slice B' v.ms.length d'] 25)) w.heap.size #[.int .i64 v.kd,.int .i64 v.nm,.string ⟨v.tx.toArray⟩,.slice B v.ls.length d,.slice B' v.ms.length d'] 25:=Blk.made w _ _
 have HF0:=Lib.hid hf0
 by_cases h1:v.kd=1
 ·have e1:(v.kd == 1)=true:=by rw [beq_iff_eq];exact h1
  obtain ⟨⟨x0,x1,x2,x3,x4⟩,_⟩:=box5 hx0
  clear hf0 hx0
  have H1:=Lib.hid h1
  clear h1
  go_enter Tryz.func34,Tryz.ntmps34
  go_wp2_with fail
  go_ret
  exact ⟨by rw [← HR.out];simp [Rf.may,H1.out],HF0.out⟩
 ·have e1:(v.kd == 1)=false:=by rw [beq_eq_false_iff_ne];exact h1
  by_cases h2:v.kd=5
  ·have e2:(v.kd != 5)=false:=by rw [h2];rfl
   have H1:=Lib.hid h1
   have H2:=Lib.hid h2
   clear h1 h2
   go_enter Tryz.func34,Tryz.ntmps34
   go_upto_region 1 with fail
   generalize (w.alloc (.cells #[.int .i64 v.kd,.int .i64 v.nm,.string ⟨v.tx.toArray⟩,.slice B v.ls.length d,.slice B' v.ms.length d'] 25))=W0 at hf0 hx0 HF0 ⊢
   generalize w.heap.size=X3 at hx0 ⊢
   have HX0:=Lib.hid hx0
   obtain ⟨⟨x0,x1,x2,x3,x4⟩,_⟩:=box5 hx0
   clear hf0 hx0
   go_upto_region 26 with fail
   clear x0 x1 x2 x3 x4
   go_loopw [5,6] (fun j s wr=>∃ i:Nat,i≤v.ls.length∧j=.int .i64 i∧Hid (∀ y (hy:y<v.ls.length),y<i→Rf.goodB 114 v.ls[y]=true)∧Hid (Fr W0 wr)) (fun j _ _=>v.ls.length - (intOf j).toNat)
   case atStart=>exact ⟨0,by omega,rfl,Lib.hid (fun y _ h=>absurd h (by omega)),Lib.hid (Fr.refl _)⟩
   case round=>
    obtain ⟨i,hi,rfl,hO,hF⟩:=hrel
    obtain ⟨⟨x0,x1,x2,x3,x4⟩,_⟩:=box5 (HX0.out.keep hF.out)
    by_cases hlt:i<v.ls.length
    ·have hlt':(i:Int)<(v.ls.length:Int):=by omega
     have h0i:(0:Int)≤(i:Int):=by omega
     obtain ⟨b,o,C,e,C',e',rfl,hb,⟨k1,k2,k3,k4,k5⟩,_⟩:=(HLS.out.keep (Nat.le_refl _) (HF0.out.trans hF.out)) i hlt
     have hsx:=HSX.out v.ls[i] (List.getElem_mem hlt)
     obtain ⟨x,hx⟩:∃ u,v.ls[i]=u:=⟨_,rfl⟩
     rw [hx] at k1 k2 k3 k4 k5 hsx
     have HXI:=Lib.hid hx
     have HXL:=Lib.hid hsx
     have HL1:=Lib.hid k1
     have HBW:Hid (b<wr.heap.size):=Lib.hid (Nat.lt_of_lt_of_le hb (HF0.out.trans hF.out).size)
     obtain ⟨bn,hbn⟩:∃ q,(Rf.bare x.tx).1=q:=⟨_,rfl⟩
     have HBL:Hid (bn.length≤1048576):=Lib.hid (by rw [← hbn];exact Nat.le_trans (Rf.bare_le x.tx) hsx)
     obtain ⟨ib,hib⟩:∃ q,Idn.isId bn=q:=⟨_,rfl⟩
     have HIB:=Lib.hid hib
     have HBN:=Lib.hid hbn
     have hgood:Rf.goodB 114 x=(decide (x.kd=4) && ib):=by
      unfold Rf.goodB Rf.isB
      rw [if_neg (by decide),if_pos rfl,← hib,← hbn]
     skip
     clear hb hx hsx hbn hib
     by_cases h4:x.kd=4
     ·have e4:(x.kd != 4)=false:=by rw [h4];rfl
      have HG:Hid (Rf.goodB 114 x=ib):=Lib.hid (by rw [hgood,h4];rfl)
      clear hgood h4
      cases ib
      ·go_wp2_with (first | (go_at_call 59;refine (HIS.out bn _ HBL.out).mono ?_;rw [HIB.out];rintro e w3 ⟨rfl,hf⟩;have HF3:=Lib.hid (HF2.out.trans hf);obtain ⟨⟨q0,q1,q2,q3,q4⟩,_⟩:=box5 (HX0.out.keep HF3.out);clear hf) | (go_at_call 60;refine (rbare_is x.tx _ HXL.out).mono ?_;rw [HBN.out];rintro e w2 ⟨rfl,hf⟩;have HF2:Hid (Fr W0 w2):=Lib.hid (hF.out.trans hf);obtain ⟨⟨r0,r1,r2,r3,r4⟩,_⟩:=box5 (HX0.out.keep HF2.out);have l1:=(hf.cell HBW.out).trans HL1.out;clear hf))
       go_ret
       exact ⟨by rw [← HR.out];simp [Rf.may,H1.out,H2.out,Rf.textsB];exact ⟨v.ls[i],List.getElem_mem hlt,by rw [HXI.out];exact HG.out⟩,HF0.out.trans HF3.out⟩
      ·go_wp2_with (first | (go_at_call 59;refine (HIS.out bn _ HBL.out).mono ?_;rw [HIB.out];rintro e w3 ⟨rfl,hf⟩;have HF3:=Lib.hid (HF2.out.trans hf);obtain ⟨⟨q0,q1,q2,q3,q4⟩,_⟩:=box5 (HX0.out.keep HF3.out);clear hf) | (go_at_call 60;refine (rbare_is x.tx _ HXL.out).mono ?_;rw [HBN.out];rintro e w2 ⟨rfl,hf⟩;have HF2:Hid (Fr W0 w2):=Lib.hid (hF.out.trans hf);obtain ⟨⟨r0,r1,r2,r3,r4⟩,_⟩:=box5 (HX0.out.keep HF2.out);have l1:=(hf.cell HBW.out).trans HL1.out;clear hf))
       exact ⟨⟨i+1,by omega,by go_num,Lib.hid (fun y hy hyt=>by
        by_cases e:y=i
        ·subst e;rw [HXI.out];exact HG.out
        ·exact hO.out y hy (by omega)),HF3⟩,by simp [intOf];omega⟩
     ·have e4:(x.kd != 4)=true:=by rw [bne_iff_ne];exact h4
      have HG:Hid (Rf.goodB 114 x=false):=Lib.hid (by rw [hgood];simp [h4])
      clear hgood h4
      go_wp2_with (go_at_call 60;refine (rbare_is x.tx _ HXL.out).mono ?_;rw [HBN.out];rintro e w2 ⟨rfl,hf⟩;have HF2:Hid (Fr W0 w2):=Lib.hid (hF.out.trans hf);obtain ⟨⟨r0,r1,r2,r3,r4⟩,_⟩:=box5 (HX0.out.keep HF2.out);have l1:=(hf.cell HBW.out).trans HL1.out;clear hf)
      go_ret
      exact ⟨by rw [← HR.out];simp [Rf.may,H1.out,H2.out,Rf.textsB];exact ⟨v.ls[i],List.getElem_mem hlt,by rw [HXI.out];exact HG.out⟩,HF0.out.trans HF2.out⟩
    ·obtain rfl:i=v.ls.length:=by omega
     have HALL:Hid (v.ls.all (Rf.goodB 114)=true):=Lib.hid (by rw [List.all_eq_true];intro x hx;obtain ⟨y,hy,rfl⟩:=List.mem_iff_getElem.1 hx;exact hO.out y hy hy)
     have HRT:Hid (r=true):=Lib.hid (by rw [← HR.out];unfold Rf.may Rf.textsB;rw [HALL.out,H2.out];rfl)
     go_wp2_with fail
     go_ret
     exact ⟨by rw [HRT.out];rfl,HF0.out.trans hF.out⟩
  ·have e2:(v.kd != 5)=true:=by rw [bne_iff_ne];exact h2
   obtain ⟨⟨x0,x1,x2,x3,x4⟩,_⟩:=box5 hx0
   clear hf0 hx0
   have H1:=Lib.hid h1
   clear h1
   have H2:=Lib.hid h2
   clear h2
   go_enter Tryz.func34,Tryz.ntmps34
   go_wp2_with fail
   go_ret
   exact ⟨by rw [← HR.out];simp [Rf.may,H1.out,H2.out,Rf.textsB],HF0.out⟩
theorem rmay116_is (v:JV) (B:Option Addr) (d:Nat) (B':Option Addr) (d':Nat) (w:World) (hv:InV w (Lo w.heap.size) v (vA v B d B' d')) (hb:JV.bulk v≤1048576):
  Calls Tryz.prog 34 #[.int .u8 116,.agg #[.int .i64 v.kd,.int .i64 v.nm,.string ⟨v.tx.toArray⟩,.slice B v.ls.length d,.slice B' v.ms.length d']] w fun e w'=>e=.returned (.bool (Rf.may 116 v))∧Fr w w':=by
 have hbe:=Rf.bulk_eq v
 have htx:v.tx.length≤1048576:=by omega
 have hls:LsC w (Lo w.heap.size) B v.ls:=by
  obtain ⟨Q,q,Q',q',he,hls,_⟩:=hv.open_
  have hA:B=Q:=by obtain ⟨_,_,_,e3,_⟩:=five he;injection e3
  rw [hA];exact hls
 have hll:=Rf.bigL_len v.ls
 have hll2:(v.ls.length:Int)≤1048576:=by omega
 have HLS:=Lib.hid hls
 have HSX:Hid (∀ x∈v.ls,x.tx.length≤1048576):=Lib.hid (fun x hx=>by have h1:=Rf.bigL_mem hx;have h2:=Rf.bulk_eq x;omega)
 have HIS:Hid (∀ (s:List UInt8) W,s.length≤1048576→Calls Tryz.prog 59 #[.string ⟨s.toArray⟩] W fun e w'=>e=.returned (.bool (Idn.isId s))∧Fr W w'):=Lib.hid (fun s W hs=>rist_is s W hs)
 clear hls hll
 obtain ⟨r,hr⟩:∃ r,Rf.may 116 v=r:=⟨_,rfl⟩
 rw [hr]
 have HR:=Lib.hid hr
 clear hv hb hbe htx hr
 have hf0:Fr w (w.alloc (.cells #[.int .i64 v.kd,.int .i64 v.nm,.string ⟨v.tx.toArray⟩,.slice B v.ls.length d,.slice B' v.ms.length d'] 25)):=(Fr.refl w).alloc _
 have hx0:Blk (w.alloc (.cells #[.int .i64 v.kd,.int .i64 v.nm,.string ⟨v.tx.toArray⟩,.slice B v.ls.length d,.slice B' v.ms.length d'] 25)) w.heap.size #[.int .i64 v.kd,.int .i64 v.nm,.string ⟨v.tx.toArray⟩,.slice B v.ls.length d,.slice B' v.ms.length d'] 25:=Blk.made w _ _
 have HF0:=Lib.hid hf0
 by_cases h1:v.kd=1
 ·have e1:(v.kd == 1)=true:=by rw [beq_iff_eq];exact h1
  obtain ⟨⟨x0,x1,x2,x3,x4⟩,_⟩:=box5 hx0
  clear hf0 hx0
  have H1:=Lib.hid h1
  clear h1
  go_enter Tryz.func34,Tryz.ntmps34
  go_wp2_with fail
  go_ret
  exact ⟨by rw [← HR.out];simp [Rf.may,H1.out],HF0.out⟩
 ·have e1:(v.kd == 1)=false:=by rw [beq_eq_false_iff_ne];exact h1
  by_cases h2:v.kd=5
  ·have e2:(v.kd != 5)=false:=by rw [h2];rfl
   have H1:=Lib.hid h1
   have H2:=Lib.hid h2
   clear h1 h2
   go_enter Tryz.func34,Tryz.ntmps34
   go_upto_region 1 with fail
   generalize (w.alloc (.cells #[.int .i64 v.kd,.int .i64 v.nm,.string ⟨v.tx.toArray⟩,.slice B v.ls.length d,.slice B' v.ms.length d'] 25))=W0 at hf0 hx0 HF0 ⊢
   generalize w.heap.size=X3 at hx0 ⊢
   have HX0:=Lib.hid hx0
   obtain ⟨⟨x0,x1,x2,x3,x4⟩,_⟩:=box5 hx0
   clear hf0 hx0
   go_upto_region 26 with fail
   clear x0 x1 x2 x3 x4
   go_loopw [5,6] (fun j s wr=>∃ i:Nat,i≤v.ls.length∧j=.int .i64 i∧Hid (∀ y (hy:y<v.ls.length),y<i→Rf.goodB 116 v.ls[y]=true)∧Hid (Fr W0 wr)) (fun j _ _=>v.ls.length - (intOf j).toNat)
   case atStart=>exact ⟨0,by omega,rfl,Lib.hid (fun y _ h=>absurd h (by omega)),Lib.hid (Fr.refl _)⟩
   case round=>
    obtain ⟨i,hi,rfl,hO,hF⟩:=hrel
    obtain ⟨⟨x0,x1,x2,x3,x4⟩,_⟩:=box5 (HX0.out.keep hF.out)
    by_cases hlt:i<v.ls.length
    ·have hlt':(i:Int)<(v.ls.length:Int):=by omega
     have h0i:(0:Int)≤(i:Int):=by omega
     obtain ⟨b,o,C,e,C',e',rfl,hb,⟨k1,k2,k3,k4,k5⟩,_⟩:=(HLS.out.keep (Nat.le_refl _) (HF0.out.trans hF.out)) i hlt
     have hsx:=HSX.out v.ls[i] (List.getElem_mem hlt)
     obtain ⟨x,hx⟩:∃ u,v.ls[i]=u:=⟨_,rfl⟩
     rw [hx] at k1 k2 k3 k4 k5 hsx
     have HXI:=Lib.hid hx
     have HXL:=Lib.hid hsx
     have HL1:=Lib.hid k1
     have HBW:Hid (b<wr.heap.size):=Lib.hid (Nat.lt_of_lt_of_le hb (HF0.out.trans hF.out).size)
     obtain ⟨bn,hbn⟩:∃ q,x.tx=q:=⟨_,rfl⟩
     have HBL:Hid (bn.length≤1048576):=Lib.hid (by rw [← hbn];exact hsx)
     obtain ⟨ib,hib⟩:∃ q,Idn.isId bn=q:=⟨_,rfl⟩
     have HIB:=Lib.hid hib
     have HBN:=Lib.hid hbn
     have hgood:Rf.goodB 116 x=(decide (x.kd=4) && true):=by
      unfold Rf.goodB Rf.isB
      rw [if_neg (by decide),if_neg (by decide)]
     rw [hbn] at k3
     clear hb hx hsx hbn hib
     by_cases h4:x.kd=4
     ·have e4:(x.kd != 4)=false:=by rw [h4];rfl
      have HG:Hid (Rf.goodB 116 x=true):=Lib.hid (by rw [hgood,h4];rfl)
      clear hgood h4
      skip
      go_wp2_with fail
      exact ⟨⟨i+1,by omega,by go_num,Lib.hid (fun y hy hyt=>by
       by_cases e:y=i
       ·subst e;rw [HXI.out];exact HG.out
       ·exact hO.out y hy (by omega)),hF⟩,by simp [intOf];omega⟩
     ·have e4:(x.kd != 4)=true:=by rw [bne_iff_ne];exact h4
      have HG:Hid (Rf.goodB 116 x=false):=Lib.hid (by rw [hgood];simp [h4])
      clear hgood h4
      go_wp2_with fail
      go_ret
      exact ⟨by rw [← HR.out];simp [Rf.may,H1.out,H2.out,Rf.textsB];exact ⟨v.ls[i],List.getElem_mem hlt,by rw [HXI.out];exact HG.out⟩,HF0.out.trans hF.out⟩
    ·obtain rfl:i=v.ls.length:=by omega
     have HALL:Hid (v.ls.all (Rf.goodB 116)=true):=Lib.hid (by rw [List.all_eq_true];intro x hx;obtain ⟨y,hy,rfl⟩:=List.mem_iff_getElem.1 hx;exact hO.out y hy hy)
     have HRT:Hid (r=true):=Lib.hid (by rw [← HR.out];unfold Rf.may Rf.textsB;rw [HALL.out,H2.out];rfl)
     go_wp2_with fail
     go_ret
     exact ⟨by rw [HRT.out];rfl,HF0.out.trans hF.out⟩
  ·have e2:(v.kd != 5)=true:=by rw [bne_iff_ne];exact h2
   obtain ⟨⟨x0,x1,x2,x3,x4⟩,_⟩:=box5 hx0
   clear hf0 hx0
   have H1:=Lib.hid h1
   clear h1
   have H2:=Lib.hid h2
   clear h2
   go_enter Tryz.func34,Tryz.ntmps34
   go_wp2_with fail
   go_ret
   exact ⟨by rw [← HR.out];simp [Rf.may,H1.out,H2.out,Rf.textsB],HF0.out⟩
theorem rmay110_is (v:JV) (B:Option Addr) (d:Nat) (B':Option Addr) (d':Nat) (w:World) (hv:InV w (Lo w.heap.size) v (vA v B d B' d')) (hb:JV.bulk v≤1048576):
  Calls Tryz.prog 34 #[.int .u8 110,.agg #[.int .i64 v.kd,.int .i64 v.nm,.string ⟨v.tx.toArray⟩,.slice B v.ls.length d,.slice B' v.ms.length d']] w fun e w'=>e=.returned (.bool (Rf.may 110 v))∧Fr w w':=by
 have hbe:=Rf.bulk_eq v
 have htx:v.tx.length≤1048576:=by omega
 obtain ⟨r,hr⟩:∃ r,Rf.may 110 v=r:=⟨_,rfl⟩
 rw [hr]
 have HR:=Lib.hid hr
 clear hv hb hbe htx hr
 have hf0:Fr w (w.alloc (.cells #[.int .i64 v.kd,.int .i64 v.nm,.string ⟨v.tx.toArray⟩,.slice B v.ls.length d,.slice B' v.ms.length d'] 25)):=(Fr.refl w).alloc _
 have hx0:Blk (w.alloc (.cells #[.int .i64 v.kd,.int .i64 v.nm,.string ⟨v.tx.toArray⟩,.slice B v.ls.length d,.slice B' v.ms.length d'] 25)) w.heap.size #[.int .i64 v.kd,.int .i64 v.nm,.string ⟨v.tx.toArray⟩,.slice B v.ls.length d,.slice B' v.ms.length d'] 25:=Blk.made w _ _
 have HF0:=Lib.hid hf0
 obtain ⟨⟨x0,x1,x2,x3,x4⟩,_⟩:=box5 hx0
 clear hf0 hx0
 by_cases h1:v.kd=1
 ·have e1:(v.kd == 1)=true:=by rw [beq_iff_eq];exact h1
  have e2:(v.kd == 3)=false:=by rw [h1];rfl
  have H1:=Lib.hid h1
  clear h1
  go_enter Tryz.func34,Tryz.ntmps34
  go_wp2_with fail
  go_ret
  exact ⟨by rw [← HR.out];simp [Rf.may,H1.out],HF0.out⟩
 ·have e1:(v.kd == 1)=false:=by rw [beq_eq_false_iff_ne];exact h1
  by_cases h2:v.kd=3
  ·have e2:(v.kd == 3)=true:=by rw [beq_iff_eq];exact h2
   by_cases h3:0≤v.nm
   ·have e3:decide (v.nm ≥ 0)=true:=decide_eq_true h3
    have H1:=Lib.hid h1
    clear h1
    have H2:=Lib.hid h2
    clear h2
    have H3:=Lib.hid h3
    clear h3
    go_enter Tryz.func34,Tryz.ntmps34
    go_wp2_with fail
    go_ret
    exact ⟨by rw [← HR.out];simp [Rf.may,H1.out,H2.out,H3.out],HF0.out⟩
   ·have e3:decide (v.nm ≥ 0)=false:=decide_eq_false h3
    have e4:v.nm<0:=by omega
    have H1:=Lib.hid h1
    clear h1
    have H2:=Lib.hid h2
    clear h2
    have H3:=Lib.hid h3
    clear h3
    go_enter Tryz.func34,Tryz.ntmps34
    go_wp2_with fail
    go_ret
    exact ⟨by rw [← HR.out];simp [Rf.may,H1.out,H2.out,H3.out],HF0.out⟩
  ·have e2:(v.kd == 3)=false:=by rw [beq_eq_false_iff_ne];exact h2
   have H1:=Lib.hid h1
   clear h1
   have H2:=Lib.hid h2
   clear h2
   go_enter Tryz.func34,Tryz.ntmps34
   go_wp2_with fail
   go_ret
   exact ⟨by rw [← HR.out];simp [Rf.may,H1.out,H2.out],HF0.out⟩
theorem rmay112_is (v:JV) (B:Option Addr) (d:Nat) (B':Option Addr) (d':Nat) (w:World) (hv:InV w (Lo w.heap.size) v (vA v B d B' d')) (hb:JV.bulk v≤1048576):
  Calls Tryz.prog 34 #[.int .u8 112,.agg #[.int .i64 v.kd,.int .i64 v.nm,.string ⟨v.tx.toArray⟩,.slice B v.ls.length d,.slice B' v.ms.length d']] w fun e w'=>e=.returned (.bool (Rf.may 112 v))∧Fr w w':=by
 have hbe:=Rf.bulk_eq v
 have htx:v.tx.length≤1048576:=by omega
 obtain ⟨r,hr⟩:∃ r,Rf.may 112 v=r:=⟨_,rfl⟩
 rw [hr]
 have HR:=Lib.hid hr
 clear hv hb hbe htx hr
 have hf0:Fr w (w.alloc (.cells #[.int .i64 v.kd,.int .i64 v.nm,.string ⟨v.tx.toArray⟩,.slice B v.ls.length d,.slice B' v.ms.length d'] 25)):=(Fr.refl w).alloc _
 have hx0:Blk (w.alloc (.cells #[.int .i64 v.kd,.int .i64 v.nm,.string ⟨v.tx.toArray⟩,.slice B v.ls.length d,.slice B' v.ms.length d'] 25)) w.heap.size #[.int .i64 v.kd,.int .i64 v.nm,.string ⟨v.tx.toArray⟩,.slice B v.ls.length d,.slice B' v.ms.length d'] 25:=Blk.made w _ _
 have HF0:=Lib.hid hf0
 obtain ⟨⟨x0,x1,x2,x3,x4⟩,_⟩:=box5 hx0
 clear hf0 hx0
 by_cases h1:v.kd=1
 ·have e1:(v.kd == 1)=true:=by rw [beq_iff_eq];exact h1
  have e2:(v.kd == 3)=false:=by rw [h1];rfl
  have H1:=Lib.hid h1
  clear h1
  go_enter Tryz.func34,Tryz.ntmps34
  go_wp2_with fail
  go_ret
  exact ⟨by rw [← HR.out];simp [Rf.may,H1.out],HF0.out⟩
 ·have e1:(v.kd == 1)=false:=by rw [beq_eq_false_iff_ne];exact h1
  by_cases h2:v.kd=3
  ·have e2:(v.kd == 3)=true:=by rw [beq_iff_eq];exact h2
   by_cases h3:1≤v.nm
   ·have e3:decide (v.nm ≥ 1)=true:=decide_eq_true h3
    have H1:=Lib.hid h1
    clear h1
    have H2:=Lib.hid h2
    clear h2
    have H3:=Lib.hid h3
    clear h3
    go_enter Tryz.func34,Tryz.ntmps34
    go_wp2_with fail
    go_ret
    exact ⟨by rw [← HR.out];simp [Rf.may,H1.out,H2.out,H3.out],HF0.out⟩
   ·have e3:decide (v.nm ≥ 1)=false:=decide_eq_false h3
    have e4:v.nm<1:=by omega
    have H1:=Lib.hid h1
    clear h1
    have H2:=Lib.hid h2
    clear h2
    have H3:=Lib.hid h3
    clear h3
    go_enter Tryz.func34,Tryz.ntmps34
    go_wp2_with fail
    go_ret
    exact ⟨by rw [← HR.out];simp [Rf.may,H1.out,H2.out,H3.out],HF0.out⟩
  ·have e2:(v.kd == 3)=false:=by rw [beq_eq_false_iff_ne];exact h2
   have H1:=Lib.hid h1
   clear h1
   have H2:=Lib.hid h2
   clear h2
   go_enter Tryz.func34,Tryz.ntmps34
   go_wp2_with fail
   go_ret
   exact ⟨by rw [← HR.out];simp [Rf.may,H1.out,H2.out],HF0.out⟩
theorem rmay122_is (v:JV) (B:Option Addr) (d:Nat) (B':Option Addr) (d':Nat) (w:World) (hv:InV w (Lo w.heap.size) v (vA v B d B' d')) (hb:JV.bulk v≤1048576):
  Calls Tryz.prog 34 #[.int .u8 122,.agg #[.int .i64 v.kd,.int .i64 v.nm,.string ⟨v.tx.toArray⟩,.slice B v.ls.length d,.slice B' v.ms.length d']] w fun e w'=>e=.returned (.bool (Rf.may 122 v))∧Fr w w':=by
 have hbe:=Rf.bulk_eq v
 have htx:v.tx.length≤1048576:=by omega
 obtain ⟨r,hr⟩:∃ r,Rf.may 122 v=r:=⟨_,rfl⟩
 rw [hr]
 have HR:=Lib.hid hr
 clear hv hb hbe htx hr
 have hf0:Fr w (w.alloc (.cells #[.int .i64 v.kd,.int .i64 v.nm,.string ⟨v.tx.toArray⟩,.slice B v.ls.length d,.slice B' v.ms.length d'] 25)):=(Fr.refl w).alloc _
 have hx0:Blk (w.alloc (.cells #[.int .i64 v.kd,.int .i64 v.nm,.string ⟨v.tx.toArray⟩,.slice B v.ls.length d,.slice B' v.ms.length d'] 25)) w.heap.size #[.int .i64 v.kd,.int .i64 v.nm,.string ⟨v.tx.toArray⟩,.slice B v.ls.length d,.slice B' v.ms.length d'] 25:=Blk.made w _ _
 have HF0:=Lib.hid hf0
 obtain ⟨⟨x0,x1,x2,x3,x4⟩,_⟩:=box5 hx0
 clear hf0 hx0
 by_cases h1:v.kd=1
 ·have e1:(v.kd == 1)=true:=by rw [beq_iff_eq];exact h1
  have e2:(v.kd == 3)=false:=by rw [h1];rfl
  have H1:=Lib.hid h1
  clear h1
  go_enter Tryz.func34,Tryz.ntmps34
  go_wp2_with fail
  go_ret
  exact ⟨by rw [← HR.out];simp [Rf.may,H1.out],HF0.out⟩
 ·have e1:(v.kd == 1)=false:=by rw [beq_eq_false_iff_ne];exact h1
  by_cases h2:v.kd=3
  ·have e2:(v.kd == 3)=true:=by rw [beq_iff_eq];exact h2
   have H1:=Lib.hid h1
   clear h1
   have H2:=Lib.hid h2
   clear h2
   go_enter Tryz.func34,Tryz.ntmps34
   go_wp2_with fail
   go_ret
   exact ⟨by rw [← HR.out];simp [Rf.may,H1.out,H2.out],HF0.out⟩
  ·have e2:(v.kd == 3)=false:=by rw [beq_eq_false_iff_ne];exact h2
   have H1:=Lib.hid h1
   clear h1
   have H2:=Lib.hid h2
   clear h2
   go_enter Tryz.func34,Tryz.ntmps34
   go_wp2_with fail
   go_ret
   exact ⟨by rw [← HR.out];simp [Rf.may,H1.out,H2.out],HF0.out⟩
theorem rmay98_is (v:JV) (B:Option Addr) (d:Nat) (B':Option Addr) (d':Nat) (w:World) (hv:InV w (Lo w.heap.size) v (vA v B d B' d')) (hb:JV.bulk v≤1048576):
  Calls Tryz.prog 34 #[.int .u8 98,.agg #[.int .i64 v.kd,.int .i64 v.nm,.string ⟨v.tx.toArray⟩,.slice B v.ls.length d,.slice B' v.ms.length d']] w fun e w'=>e=.returned (.bool (Rf.may 98 v))∧Fr w w':=by
 have hbe:=Rf.bulk_eq v
 have htx:v.tx.length≤1048576:=by omega
 obtain ⟨r,hr⟩:∃ r,Rf.may 98 v=r:=⟨_,rfl⟩
 rw [hr]
 have HR:=Lib.hid hr
 clear hv hb hbe htx hr
 have hf0:Fr w (w.alloc (.cells #[.int .i64 v.kd,.int .i64 v.nm,.string ⟨v.tx.toArray⟩,.slice B v.ls.length d,.slice B' v.ms.length d'] 25)):=(Fr.refl w).alloc _
 have hx0:Blk (w.alloc (.cells #[.int .i64 v.kd,.int .i64 v.nm,.string ⟨v.tx.toArray⟩,.slice B v.ls.length d,.slice B' v.ms.length d'] 25)) w.heap.size #[.int .i64 v.kd,.int .i64 v.nm,.string ⟨v.tx.toArray⟩,.slice B v.ls.length d,.slice B' v.ms.length d'] 25:=Blk.made w _ _
 have HF0:=Lib.hid hf0
 obtain ⟨⟨x0,x1,x2,x3,x4⟩,_⟩:=box5 hx0
 clear hf0 hx0
 by_cases h1:v.kd=1
 ·have e1:(v.kd == 1)=true:=by rw [beq_iff_eq];exact h1
  have e2:(v.kd == 2)=false:=by rw [h1];rfl
  have H1:=Lib.hid h1
  clear h1
  go_enter Tryz.func34,Tryz.ntmps34
  go_wp2_with fail
  go_ret
  exact ⟨by rw [← HR.out];simp [Rf.may,H1.out],HF0.out⟩
 ·have e1:(v.kd == 1)=false:=by rw [beq_eq_false_iff_ne];exact h1
  by_cases h2:v.kd=2
  ·have e2:(v.kd == 2)=true:=by rw [beq_iff_eq];exact h2
   have H1:=Lib.hid h1
   clear h1
   have H2:=Lib.hid h2
   clear h2
   go_enter Tryz.func34,Tryz.ntmps34
   go_wp2_with fail
   go_ret
   exact ⟨by rw [← HR.out];simp [Rf.may,H1.out,H2.out],HF0.out⟩
  ·have e2:(v.kd == 2)=false:=by rw [beq_eq_false_iff_ne];exact h2
   have H1:=Lib.hid h1
   clear h1
   have H2:=Lib.hid h2
   clear h2
   go_enter Tryz.func34,Tryz.ntmps34
   go_wp2_with fail
   go_ret
   exact ⟨by rw [← HR.out];simp [Rf.may,H1.out,H2.out],HF0.out⟩
theorem rmay24_is (c:UInt8) (hc:c∈Rf.letters) (v:JV) (B:Option Addr) (d:Nat) (B':Option Addr) (d':Nat) (w:World) (hv:InV w (Lo w.heap.size) v (vA v B d B' d')) (hb:JV.bulk v≤1048576):
  Calls Tryz.prog 34 #[.int .u8 (c.toNat:Nat),.agg #[.int .i64 v.kd,.int .i64 v.nm,.string ⟨v.tx.toArray⟩,.slice B v.ls.length d,.slice B' v.ms.length d']] w fun e w'=>e=.returned (.bool (Rf.may c v))∧Fr w w':=by
 simp only [Rf.letters,List.mem_cons,List.not_mem_nil,or_false] at hc
 rcases hc with rfl | rfl | rfl | rfl | rfl | rfl | rfl | rfl | rfl | rfl | rfl | rfl | rfl | rfl
 ·exact rmay105_is v B d B' d' w hv hb
 ·exact rmay73_is v B d B' d' w hv hb
 ·exact rmay115_is v B d B' d' w hv hb
 ·exact rmay83_is v B d B' d' w hv hb
 ·exact rmay118_is v B d B' d' w hv hb
 ·exact rmay86_is v B d B' d' w hv hb
 ·exact rmay119_is v B d B' d' w hv hb
 ·exact rmay108_is v B d B' d' w hv hb
 ·exact rmay114_is v B d B' d' w hv hb
 ·exact rmay116_is v B d B' d' w hv hb
 ·exact rmay110_is v B d B' d' w hv hb
 ·exact rmay112_is v B d B' d' w hv hb
 ·exact rmay122_is v B d B' d' w hv hb
 ·exact rmay98_is v B d B' d' w hv hb
end Go.Proofs.YtdhakbghdcfncaaGreatDoor
