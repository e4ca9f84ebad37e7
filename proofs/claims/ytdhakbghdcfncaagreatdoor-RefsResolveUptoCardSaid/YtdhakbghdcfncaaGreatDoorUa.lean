/- Walks of utf's small functions: size, fits. -/
import Derived.Test.YtdhakbghdcfncaaGreatDoorKa
import Derived.Test.YtdhakbghdcfncaaGreatDoorPa
import Derived.Laws.BitsLemmas
import Derived.Deep.RegionLaw
namespace Go.Proofs.YtdhakbghdcfncaaGreatDoor
set_option maxRecDepth 100000
set_option maxHeartbeats 2000000
set_option linter.unusedVariables false
set_option linter.unusedSimpArgs false
open Go.RowKit

theorem size_is (a:UInt8) (n p:Nat) (w:World) (h:Utf.sz a=(n,p)):
  Calls Tryz.prog 109 #[.int .u8 a.toNat] w fun e w'=>e=.returned (.tuple #[.int .i64 n,.int .i32 p])∧w=w':=by
 have ha:=a.toNat_lt
 by_cases c0:a.toNat<128
 ·have hz:Hid ((n,p)=(1,a.toNat)):=by show _=_;rw [← h];unfold Utf.sz;rw [if_pos (by omega)]
  have hn:=congrArg Prod.fst hz.out
  have hp:=congrArg Prod.snd hz.out
  simp only at hn hp
  clear h hz
  subst hn
  subst hp
  have d0:decide ((a.toNat:Int)<128)=true:=decide_eq_true (by omega)
  have hw:wrap32 (a.toNat:Int)=(a.toNat:Int):=by unfold wrap32;omega
  clear c0 ha
  go_enter Tryz.func109,Tryz.ntmps109
  go_wp2_with fail
  go_ret2
  exact ⟨by rw [hw];rfl,rfl⟩
 by_cases c1:a.toNat<194
 ·have hz:Hid ((n,p)=(0,0)):=by show _=_;rw [← h];unfold Utf.sz;rw [if_neg (by omega),if_pos (by omega)]
  have hn:=congrArg Prod.fst hz.out
  have hp:=congrArg Prod.snd hz.out
  simp only at hn hp
  clear h hz
  subst hn
  subst hp
  have d0:decide ((a.toNat:Int)<128)=false:=decide_eq_false (by omega)
  have d1:decide ((a.toNat:Int)<194)=true:=decide_eq_true (by omega)
  clear c0 c1 ha
  go_enter Tryz.func109,Tryz.ntmps109
  go_wp2_with fail
  go_ret2
  exact ⟨rfl,rfl⟩
 by_cases c2:a.toNat<224
 ·have hz:Hid ((n,p)=(2,a.toNat % 32)):=by show _=_;rw [← h];unfold Utf.sz;rw [if_neg (by omega),if_neg (by omega),if_pos (by omega)]
  have hn:=congrArg Prod.fst hz.out
  have hp:=congrArg Prod.snd hz.out
  simp only at hn hp
  clear h hz
  subst hn
  subst hp
  have d0:decide ((a.toNat:Int)<128)=false:=decide_eq_false (by omega)
  have d1:decide ((a.toNat:Int)<194)=false:=decide_eq_false (by omega)
  have d2:decide ((a.toNat:Int)<224)=true:=decide_eq_true (by omega)
  have hm:bits .and .u8 (a.toNat:Int) 31=((a.toNat % 32:Nat):Int):=by rw [u8_and31 _ (by omega) (by omega)];omega
  clear c0 c1 c2 ha
  go_enter Tryz.func109,Tryz.ntmps109
  go_wp2_with fail
  go_ret2
  exact ⟨rfl,rfl⟩
 by_cases c3:a.toNat<240
 ·have hz:Hid ((n,p)=(3,a.toNat % 16)):=by show _=_;rw [← h];unfold Utf.sz;rw [if_neg (by omega),if_neg (by omega),if_neg (by omega),if_pos (by omega)]
  have hn:=congrArg Prod.fst hz.out
  have hp:=congrArg Prod.snd hz.out
  simp only at hn hp
  clear h hz
  subst hn
  subst hp
  have d0:decide ((a.toNat:Int)<128)=false:=decide_eq_false (by omega)
  have d1:decide ((a.toNat:Int)<194)=false:=decide_eq_false (by omega)
  have d2:decide ((a.toNat:Int)<224)=false:=decide_eq_false (by omega)
  have d3:decide ((a.toNat:Int)<240)=true:=decide_eq_true (by omega)
  have hm:bits .and .u8 (a.toNat:Int) 15=((a.toNat % 16:Nat):Int):=by rw [u8_and15 _ (by omega) (by omega)];omega
  clear c0 c1 c2 c3 ha
  go_enter Tryz.func109,Tryz.ntmps109
  go_wp2_with fail
  go_ret2
  exact ⟨rfl,rfl⟩
 by_cases c4:a.toNat<245
 ·have hz:Hid ((n,p)=(4,a.toNat % 8)):=by show _=_;rw [← h];unfold Utf.sz;rw [if_neg (by omega),if_neg (by omega),if_neg (by omega),if_neg (by omega),if_pos (by omega)]
  have hn:=congrArg Prod.fst hz.out
  have hp:=congrArg Prod.snd hz.out
  simp only at hn hp
  clear h hz
  subst hn
  subst hp
  have d0:decide ((a.toNat:Int)<128)=false:=decide_eq_false (by omega)
  have d1:decide ((a.toNat:Int)<194)=false:=decide_eq_false (by omega)
  have d2:decide ((a.toNat:Int)<224)=false:=decide_eq_false (by omega)
  have d3:decide ((a.toNat:Int)<240)=false:=decide_eq_false (by omega)
  have d4:decide ((a.toNat:Int)<245)=true:=decide_eq_true (by omega)
  have hm:bits .and .u8 (a.toNat:Int) 7=((a.toNat % 8:Nat):Int):=by rw [u8_and7 _ (by omega) (by omega)];omega
  clear c0 c1 c2 c3 c4 ha
  go_enter Tryz.func109,Tryz.ntmps109
  go_wp2_with fail
  go_ret2
  exact ⟨rfl,rfl⟩
 have hz:Hid ((n,p)=(0,0)):=by show _=_;rw [← h];unfold Utf.sz;rw [if_neg (by omega),if_neg (by omega),if_neg (by omega),if_neg (by omega),if_neg (by omega)]
 have hn:=congrArg Prod.fst hz.out
 have hp:=congrArg Prod.snd hz.out
 simp only at hn hp
 clear h hz
 subst hn
 subst hp
 have d0:decide ((a.toNat:Int)<128)=false:=decide_eq_false (by omega)
 have d1:decide ((a.toNat:Int)<194)=false:=decide_eq_false (by omega)
 have d2:decide ((a.toNat:Int)<224)=false:=decide_eq_false (by omega)
 have d3:decide ((a.toNat:Int)<240)=false:=decide_eq_false (by omega)
 have d4:decide ((a.toNat:Int)<245)=false:=decide_eq_false (by omega)
 clear c0 c1 c2 c3 c4 ha
 go_enter Tryz.func109,Tryz.ntmps109
 go_wp2_with fail
 go_ret2
 exact ⟨rfl,rfl⟩

theorem fits_is (p n:Nat) (b:Bool) (w:World) (hn:n≤4) (hp:p<2097152) (h:Utf.fits p n=b):
  Calls Tryz.prog 110 #[.int .i32 p,.int .i64 n] w fun e w'=>e=.returned (.bool b)∧w=w':=by
 by_cases h3:n=3
 ·subst h3
  have hb:Hid ((decide (2048≤p) && (decide (p<55296) || decide (57343<p)))=b):=by show _=_;rw [← h];rfl
  clear h
  by_cases c1:p<2048
  ·obtain rfl:b=false:=by rw [← hb.out];simp;omega
   clear hb
   have d1:decide ((2048:Int)≤(p:Int))=false:=decide_eq_false (by omega)
   go_enter Tryz.func110,Tryz.ntmps110
   go_wp2_with fail
   go_ret
   exact ⟨rfl,rfl⟩
  ·have d1:decide ((2048:Int)≤(p:Int))=true:=decide_eq_true (by omega)
   by_cases c2:p<55296
   ·obtain rfl:b=true:=by rw [← hb.out];simp;omega
    clear hb
    have d2:decide ((p:Int)<55296)=true:=decide_eq_true (by omega)
    go_enter Tryz.func110,Tryz.ntmps110
    go_wp2_with fail
    go_ret
    exact ⟨rfl,rfl⟩
   ·have d2:decide ((p:Int)<55296)=false:=decide_eq_false (by omega)
    by_cases c3:57343<p
    ·obtain rfl:b=true:=by rw [← hb.out];simp;omega
     clear hb
     have d3:decide ((57343:Int)<(p:Int))=true:=decide_eq_true (by omega)
     go_enter Tryz.func110,Tryz.ntmps110
     go_wp2_with fail
     go_ret
     exact ⟨rfl,rfl⟩
    ·obtain rfl:b=false:=by rw [← hb.out];simp;omega
     clear hb
     have d3:decide ((57343:Int)<(p:Int))=false:=decide_eq_false (by omega)
     go_enter Tryz.func110,Tryz.ntmps110
     go_wp2_with fail
     go_ret
     exact ⟨rfl,rfl⟩
 ·by_cases h4:n=4
  ·subst h4
   have hb:Hid ((decide (65536≤p) && decide (p≤1114111))=b):=by show _=_;rw [← h];rfl
   clear h
   by_cases c1:p<65536
   ·obtain rfl:b=false:=by rw [← hb.out];simp;omega
    clear hb
    have d1:decide ((65536:Int)≤(p:Int))=false:=decide_eq_false (by omega)
    go_enter Tryz.func110,Tryz.ntmps110
    go_wp2_with fail
    go_ret
    exact ⟨rfl,rfl⟩
   ·have d1:decide ((65536:Int)≤(p:Int))=true:=decide_eq_true (by omega)
    by_cases c2:p≤1114111
    ·obtain rfl:b=true:=by rw [← hb.out];simp;omega
     clear hb
     have d2:decide ((p:Int)≤1114111)=true:=decide_eq_true (by omega)
     go_enter Tryz.func110,Tryz.ntmps110
     go_wp2_with fail
     go_ret
     exact ⟨rfl,rfl⟩
    ·obtain rfl:b=false:=by rw [← hb.out];simp;omega
     clear hb
     have d2:decide ((p:Int)≤1114111)=false:=decide_eq_false (by omega)
     go_enter Tryz.func110,Tryz.ntmps110
     go_wp2_with fail
     go_ret
     exact ⟨rfl,rfl⟩
  ·obtain rfl:b=true:=by rw [← h];unfold Utf.fits;rw [if_neg h3,if_neg h4]
   clear h
   have e3:((n:Int) == 3)=false:=by rw [beq_eq_false_iff_ne];omega
   have e4:((n:Int) == 4)=false:=by rw [beq_eq_false_iff_ne];omega
   clear h3 h4
   go_enter Tryz.func110,Tryz.ntmps110
   go_wp2_with fail
   go_ret
   exact ⟨rfl,rfl⟩

/- The walk of utf.One. -/

theorem toList_drop (s:ByteArray) (k:Nat) (h:k<s.size):s.data.toList.drop k=s[k]::s.data.toList.drop (k+1):=Nm.drop_cons s.data.toList k (by simpa using h)

structure OneInv (s:ByteArray) (k n0 p0 i q:Nat):Prop where
 lo:1≤i
 hi:i≤n0
 eq:Utf.tailv p0 (s.data.toList.drop (k+1)) (n0 - 1)=Utf.tailv q (s.data.toList.drop (k+i)) (n0 - i)
 b0:n0 - i=0→q<2097152
 b1:n0 - i=1→q<32768
 b2:n0 - i=2→q<512
 b3:n0 - i=3→q<8
theorem OneInv.step {s:ByteArray} {k n0 p0 i q:Nat} (h:OneInv s k n0 p0 i q) (hn:n0≤4) (hi:i<n0) (hk:k+i<s.size) (hc:Utf.cont s[k+i]=true):
  OneInv s k n0 p0 (i+1) (q*64+s[k+i].toNat % 64):=by
 have hl:=h.lo;have h0:=h.b0;have h1:=h.b1;have h2:=h.b2;have h3:=h.b3
 refine ⟨by omega,by omega,?_,by omega,by omega,by omega,by omega⟩
 rw [h.eq,show n0 - i=(n0 - (i+1))+1 by omega,toList_drop s (k+i) hk,Utf.tailv,if_pos hc]
 rfl
theorem OneInv.non {s:ByteArray} {k n0 p0 i q:Nat} (h:OneInv s k n0 p0 i q) (hi:i<n0) (hk:k+i<s.size) (hc:Utf.cont s[k+i]=false):
  Utf.tailv p0 (s.data.toList.drop (k+1)) (n0 - 1)=none:=by
 rw [h.eq,show n0 - i=(n0 - (i+1))+1 by omega,toList_drop s (k+i) hk,Utf.tailv,if_neg (by rw [hc];simp)]
theorem OneInv.done {s:ByteArray} {k n0 p0 q:Nat} (h:OneInv s k n0 p0 n0 q):Utf.tailv p0 (s.data.toList.drop (k+1)) (n0 - 1)=some q:=by
 rw [h.eq,Nat.sub_self,Utf.tailv_zero]
theorem OneInv.bound {s:ByteArray} {k n0 p0 i q:Nat} (h:OneInv s k n0 p0 i q) (hn:n0≤4) (hi:i<n0):q<32768:=by
 have:=h.lo;have h1:=h.b1;have h2:=h.b2;have h3:=h.b3;omega

theorem or_join6 (q r:Nat) (hq:q<32768) (hr:r<64):bits BinOp.or IntKind.i32 ((q:Int)*64) (r:Int)=((q*64+r:Nat):Int):=by
 rw [i32_or6 _ _ (by omega) (by omega) (by omega) (by omega) (by omega)];omega

theorem one_is (s:ByteArray) (k p n:Nat) (w:World) (hs:s.size≤maxLen) (hk:k<s.size) (h:Utf.one (s.data.toList.drop k)=(p,n)):
  Calls Tryz.prog 99 #[.string s,.int .i64 k] w fun e w'=>e=.returned (.tuple #[.int .i32 p,.int .i64 n])∧w=w':=by
 unfold maxLen at hs
 obtain ⟨a,ha⟩:∃ a,s[k]=a:=⟨_,rfl⟩
 rcases hz:Utf.sz a with ⟨n0,p0⟩
 have hsb:=Utf.sz_bound a
 rw [hz] at hsb
 simp only at hsb
 rw [toList_drop s k hk,ha,Utf.one_cons,hz] at h
 have hl:(s.data.toList.drop (k+1)).length+1=s.size - k:=by simp;omega
 rw [hl] at h
 simp only at h
 have HZ:=Lib.hid hz
 clear hz hl
 have d1:decide ((k:Int)<0)=false:=decide_eq_false (by omega)
 have d2:decide ((s.size:Int)≤(k:Int))=false:=decide_eq_false (by omega)
 by_cases h0:n0=0
 ·rw [if_pos (.inl h0)] at h
  obtain ⟨rfl,rfl⟩:0=p∧0=n:=by simpa using h
  clear h hsb
  subst h0
  go_enter Tryz.func99,Tryz.ntmps99
  go_wp2_with (go_at_call 109;refine (size_is a 0 p0 _ HZ.out).mono ?_;rintro e w' ⟨rfl,rfl⟩)
  go_ret2
  exact ⟨rfl,rfl⟩
 ·have e0:((n0:Int) == 0)=false:=by rw [beq_eq_false_iff_ne];omega
  by_cases hlen:s.size - k<n0
  ·rw [if_pos (.inr hlen)] at h
   obtain ⟨rfl,rfl⟩:0=p∧0=n:=by simpa using h
   have d3:decide ((s.size:Int) - (k:Int)<(n0:Int))=true:=decide_eq_true (by omega)
   clear h hsb hlen h0
   go_enter Tryz.func99,Tryz.ntmps99
   go_wp2_with (go_at_call 109;refine (size_is a n0 p0 _ HZ.out).mono ?_;rintro e w' ⟨rfl,rfl⟩)
   go_ret2
   exact ⟨rfl,rfl⟩
  ·rw [if_neg (by omega)] at h
   have d3:decide ((s.size:Int) - (k:Int)<(n0:Int))=false:=decide_eq_false (by omega)
   have hn4:n0≤4:=hsb.1
   have hst:OneInv s k n0 p0 1 p0:=⟨by omega,by omega,rfl,by omega,by omega,by omega,by omega⟩
   have H:=Lib.hid h
   clear h hsb
   go_enter Tryz.func99,Tryz.ntmps99
   go_wp2_with (go_at_call 109;refine (size_is a n0 p0 _ HZ.out).mono ?_;rintro e w' ⟨rfl,rfl⟩)
   go_loop [7,8] (fun v j=>∃ i q:Nat,v=.int .i32 q∧j=.int .i64 i∧OneInv s k n0 p0 i q) (fun _ j=>n0 - (intOf j).toNat)
   case atStart=>exact ⟨1,p0,rfl,rfl,hst⟩
   case round=>
    obtain ⟨i,q,rfl,rfl,hi⟩:=hrel
    have h1:=hi.lo
    have h2:=hi.hi
    by_cases hlt:i<n0
    ·have hb:=hi.bound hn4 hlt
     have hx:k+i<s.size:=by omega
     obtain ⟨b,hbb⟩:∃ b,s[k+i]=b:=⟨_,rfl⟩
     have hb256:=b.toNat_lt
     by_cases hc:Utf.cont b=true
     ·have hc':=Utf.cont_iff.1 hc
      have hnx:=Lib.hid (hi.step hn4 hlt hx (by rw [hbb];exact hc))
      rw [hbb] at hnx
      have e1:decide ((b.toNat:Int)<128)=false:=decide_eq_false (by omega)
      have e2:decide ((191:Int)<(b.toNat:Int))=false:=decide_eq_false (by omega)
      have hm:bits BinOp.and IntKind.u8 (b.toNat:Int) 63=((b.toNat % 64:Nat):Int):=by rw [u8_and63 _ (by omega) (by omega)];omega
      have hj:=or_join6 q (b.toNat % 64) hb (by omega)
      clear hi hc hc'
      go_wp2_with fail
      exact ⟨⟨i+1,q*64+b.toNat % 64,rfl,by go_num,hnx.out⟩,by simp [intOf];omega⟩
     ·have hnn:=hi.non hlt hx (by rw [hbb];simpa using hc)
      have H':=H.out
      rw [hnn] at H'
      obtain ⟨rfl,rfl⟩:0=p∧0=n:=by simpa using H'
      clear hi H'
      by_cases hlo:b.toNat<128
      ·have e1:decide ((b.toNat:Int)<128)=true:=decide_eq_true (by omega)
       go_wp2_with fail
       go_ret2
       exact ⟨rfl,rfl⟩
      ·have e1:decide ((b.toNat:Int)<128)=false:=decide_eq_false (by omega)
       have e2:decide ((191:Int)<(b.toNat:Int))=true:=decide_eq_true (by
        rw [Utf.cont_iff] at hc;omega)
       go_wp2_with fail
       go_ret2
       exact ⟨rfl,rfl⟩
    ·obtain rfl:i=n0:=by omega
     have hd:=hi.done
     have hq:=hi.b0 (by omega)
     have H':=H.out
     rw [hd] at H'
     simp only at H'
     clear hi
     by_cases hf:Utf.fits q i=true
     ·rw [if_pos hf] at H'
      obtain ⟨rfl,rfl⟩:q=p∧i=n:=by simpa using H'
      clear H'
      go_wp2_with (go_at_call 110;refine (fits_is q i true _ hn4 hq hf).mono ?_;rintro e w' ⟨rfl,rfl⟩)
      go_ret2
      exact ⟨rfl,rfl⟩
     ·rw [if_neg hf] at H'
      obtain ⟨rfl,rfl⟩:0=p∧0=n:=by simpa using H'
      clear H'
      go_wp2_with (go_at_call 110;refine (fits_is q i false _ hn4 hq (by simpa using hf)).mono ?_;rintro e w' ⟨rfl,rfl⟩)
      go_ret2
      exact ⟨rfl,rfl⟩

/- Plain laws of bytes at a place. -/

theorem one_at {s:ByteArray} {k:Nat} (hk:k<s.size):∃ p n,Utf.one (s.data.toList.drop k)=(p,n)∧k+n≤s.size∧p≤1114111:=by
 refine ⟨(Utf.one (s.data.toList.drop k)).1,(Utf.one (s.data.toList.drop k)).2,rfl,?_,Utf.one_bound _⟩
 have:=(Utf.one_len (l:=s.data.toList.drop k)).1
 simp at this
 omega
theorem bad_at_stop {s:ByteArray} {k p:Nat} (h:Utf.one (s.data.toList.drop k)=(p,0)):Utf.bad (s.data.toList.drop k)=0:=Utf.bad_stop (by rw [h])
theorem bad_at_step {s:ByteArray} {k p n:Nat} (h:Utf.one (s.data.toList.drop k)=(p,n)) (hn:n≠0):Utf.bad (s.data.toList.drop k)=n+Utf.bad (s.data.toList.drop (k+n)):=by
 rw [Utf.bad_step (by rw [h];exact hn),h,List.drop_drop]
theorem drop_end {s:ByteArray} {k:Nat} (h:¬ k<s.size):s.data.toList.drop k=[]:=List.drop_of_length_le (by simp;omega)

theorem u8neq {c:UInt8} {d:Nat} (hd:d<256) (h:c≠UInt8.ofNat d):((c.toNat:Int) == (d:Int))=false:=by
 rw [beq_eq_false_iff_ne]
 intro e
 apply h
 have:c.toNat=d:=by omega
 rw [← this];simp


/- Walks: the document's Is, Bytes. -/

/- The walk of utf.Bad. -/

theorem bad_is (s:ByteArray) (w:World) (hs:s.size≤maxLen):
  Calls Tryz.prog 81 #[.string s] w fun e w'=>e=.returned (.int .i64 (Utf.bad s.data.toList))∧w=w':=by
 have hsm:=Lib.hid hs
 unfold maxLen at hs
 go_enter Tryz.func81,Tryz.ntmps81
 go_wp2_with fail
 go_loop [3] (fun j=>∃ k:Nat,k≤s.size∧j=.int .i64 k∧Hid (Utf.bad s.data.toList=k+Utf.bad (s.data.toList.drop k))) (fun j=>s.size - (intOf j).toNat)
 case atStart=>exact ⟨0,by omega,rfl,by show _=_;simp⟩
 case round=>
  obtain ⟨k,hk,rfl,he⟩:=hrel
  by_cases hlt:k<s.size
  ·obtain ⟨p,n,ho,hle,hp⟩:=one_at hlt
   have HO:=Lib.hid ho
   clear ho
   by_cases hn:n=0
   ·subst hn
    have hb:=Lib.hid (bad_at_stop HO.out)
    go_wp2_with (go_at_call 99;refine (one_is s k p 0 _ hsm.out hlt HO.out).mono ?_;rintro e w' ⟨rfl,rfl⟩)
    go_ret
    exact ⟨ret_int (by rw [he.out,hb.out];omega),rfl⟩
   ·have hb:=Lib.hid (bad_at_step HO.out hn)
    have e0:((n:Int) == 0)=false:=by rw [beq_eq_false_iff_ne];omega
    go_wp2_with (go_at_call 99;refine (one_is s k p n _ hsm.out hlt HO.out).mono ?_;rintro e w' ⟨rfl,rfl⟩)
    exact ⟨⟨k+n,hle,by go_num,by show _=_;rw [he.out,hb.out];omega⟩,by simp [intOf];omega⟩
  ·have hb:Hid (Utf.bad (s.data.toList.drop k)=0):=by show _=_;rw [drop_end hlt];rfl
   go_wp2_with fail
   go_ret
   exact ⟨ret_int (by rw [he.out,hb.out];omega),rfl⟩

/- The walk of chars.escape. -/

/- The walk of chars.Quote. -/

structure QInv (s:ByteArray) (k:Nat) (l:List UInt8):Prop where
 eq:Chr.quote s.data.toList=l++(s.data.toList.drop k).flatMap Chr.esc++[34]
/- How far a text between quotes has been read: plain, over a text's bytes. -/

theorem escu_len {l:List UInt8} {p n:Nat} (h:Chr.escu l=some (p,n)):(Utf.bytes p).length≤n:=by
 have h1:=Chr.escu_pt h
 have:=Utf.bytes_le p
 omega
theorem tok_len {l:List UInt8} {p n:Nat} (h:Chr.tok l=.pc p n):(Utf.bytes p).length≤n:=by
 rcases l with _ | ⟨c,r⟩
 ·simp [Chr.tok] at h
 rw [Chr.tok_cons] at h
 split at h
 ·cases h
 split at h
 ·cases h
 split at h
 ·rcases he:Chr.escd (c::r) with _ | ⟨q,m⟩
  ·rw [he] at h;cases h
  ·rw [he] at h
   simp only [Chr.Tok.pc.injEq] at h
   obtain ⟨rfl,rfl⟩:=h
   unfold Chr.escd at he
   rcases hp:Chr.plain ((c::r).getD 1 0) with _ | x
   ·rw [hp] at he;exact escu_len he
   ·rw [hp] at he
    simp at he
    obtain ⟨rfl,rfl⟩:=he
    have:=Chr.plain_lt hp
    unfold Utf.bytes
    rw [if_pos this]
    simp
 split at h
 ·cases h
 ·rename_i h0
  simp only [Chr.Tok.pc.injEq] at h
  obtain ⟨rfl,rfl⟩:=h
  have h1:=Utf.one_sound' h0
  omega

structure RdInv (s:ByteArray) (k i:Nat) (ps:List Nat):Prop where
 lo:k+1≤i
 hi:i≤s.size
 eq:Chr.rd (s.data.toList.drop (k+1))=(ps++(Chr.rd (s.data.toList.drop i)).1,(i - (k+1))+(Chr.rd (s.data.toList.drop i)).2.1,(Chr.rd (s.data.toList.drop i)).2.2)
 len:(ps.flatMap Utf.bytes).length≤i - (k+1)
theorem RdInv.start {s:ByteArray} {k:Nat} (hk:k<s.size):RdInv s k (k+1) []:=⟨by omega,by omega,by simp,by simp⟩
theorem RdInv.step {s:ByteArray} {k i p n:Nat} {ps:List Nat} (h:RdInv s k i ps) (ht:Chr.tok (s.data.toList.drop i)=.pc p n):RdInv s k (i+n) (ps++[p]):=by
 have h1:=Chr.tok_pc ht
 have h2:=tok_len ht
 have h3:=h.lo
 have h4:=h.hi
 have h5:=h.len
 simp only [List.length_drop,Array.length_toList] at h1
 have h6:s.data.size=s.size:=rfl
 refine ⟨by omega,by omega,?_,?_⟩
 ·rw [h.eq,Chr.rd_pc ht,List.drop_drop]
  simp only [Prod.mk.injEq,List.append_assoc,List.cons_append,List.nil_append,true_and,and_true]
  omega
 ·rw [List.flatMap_append,List.length_append]
  simp only [List.flatMap_cons,List.flatMap_nil,List.append_nil]
  omega
theorem RdInv.fin {s:ByteArray} {k i:Nat} {ps:List Nat} (h:RdInv s k i ps) (hk:k<s.size) (h34:s.data.toList.getD k 0=34) (ht:Chr.tok (s.data.toList.drop i)=.fin):
  Chr.read s.data.toList k=(ps.flatMap Utf.bytes,(i:Int)+1,0):=by
 have:=h.lo
 rw [Chr.read_in (by simpa using hk) h34,h.eq,Chr.rd_fin ht]
 simp only [List.append_nil,if_true,Prod.mk.injEq,true_and]
 omega
theorem RdInv.bad {s:ByteArray} {k i e:Nat} {ps:List Nat} (h:RdInv s k i ps) (hk:k<s.size) (h34:s.data.toList.getD k 0=34) (ht:Chr.tok (s.data.toList.drop i)=.bad e):
  Chr.read s.data.toList k=([],(i:Int),(e:Int)):=by
 have:=h.lo
 have he:=Chr.tok_bad ht
 rw [Chr.read_in (by simpa using hk) h34,h.eq,Chr.rd_bad ht]
 simp only
 rw [if_neg (by omega)]
 simp only [Prod.mk.injEq,true_and,and_true]
 omega
theorem RdInv.room {s:ByteArray} {k i p n:Nat} {ps:List Nat} (h:RdInv s k i ps) (ht:Chr.tok (s.data.toList.drop i)=.pc p n):(ps.flatMap Utf.bytes).length+(Utf.bytes p).length≤s.size:=by
 have h1:=(h.step ht).len
 have h2:=(h.step ht).hi
 rw [List.flatMap_append,List.length_append] at h1
 simp only [List.flatMap_cons,List.flatMap_nil,List.append_nil] at h1
 omega
theorem flat_snoc (ps:List Nat) (p:Nat):(ps++[p]).flatMap Utf.bytes=ps.flatMap Utf.bytes++Utf.bytes p:=by simp

theorem tok_at {s:ByteArray} {i:Nat} {c:UInt8} (hi:i<s.size) (hc:s[i]=c):Chr.tok (s.data.toList.drop i)=if c=34 then .fin else if c.toNat<32 then .bad 20 else
  if c=92 then (match Chr.escd (s.data.toList.drop i) with | none=>.bad 20 | some (p,n)=>.pc p n) else
  if (Utf.one (s.data.toList.drop i)).2=0 then .bad 10 else .pc (Utf.one (s.data.toList.drop i)).1 (Utf.one (s.data.toList.drop i)).2:=by
 have e:=toList_drop s i hi
 rw [hc] at e
 rw [e,Chr.tok_cons]
 repeat' (first | rfl | split)
theorem tok_fin_at {s:ByteArray} {i:Nat} (hi:i<s.size) (hc:s[i]=34):Chr.tok (s.data.toList.drop i)=.fin:=by rw [tok_at hi hc,if_pos rfl]
theorem tok_low_at {s:ByteArray} {i:Nat} {c:UInt8} (hi:i<s.size) (hc:s[i]=c) (h34:c≠34) (h32:c.toNat<32):Chr.tok (s.data.toList.drop i)=.bad 20:=by rw [tok_at hi hc,if_neg h34,if_pos h32]
theorem tok_esc_none {s:ByteArray} {i:Nat} (hi:i<s.size) (hc:s[i]=92) (h:Chr.escd (s.data.toList.drop i)=none):Chr.tok (s.data.toList.drop i)=.bad 20:=by
 rw [tok_at hi hc,if_neg (by decide),if_neg (by decide),if_pos rfl,h]
theorem tok_esc_some {s:ByteArray} {i p n:Nat} (hi:i<s.size) (hc:s[i]=92) (h:Chr.escd (s.data.toList.drop i)=some (p,n)):Chr.tok (s.data.toList.drop i)=.pc p n:=by
 rw [tok_at hi hc,if_neg (by decide),if_neg (by decide),if_pos rfl,h]
theorem tok_one_none {s:ByteArray} {i p:Nat} {c:UInt8} (hi:i<s.size) (hc:s[i]=c) (h34:c≠34) (h32:¬ c.toNat<32) (h92:c≠92) (h:Utf.one (s.data.toList.drop i)=(p,0)):Chr.tok (s.data.toList.drop i)=.bad 10:=by
 rw [tok_at hi hc,if_neg h34,if_neg h32,if_neg h92,h,if_pos rfl]
theorem tok_one_some {s:ByteArray} {i p n:Nat} {c:UInt8} (hi:i<s.size) (hc:s[i]=c) (h34:c≠34) (h32:¬ c.toNat<32) (h92:c≠92) (h:Utf.one (s.data.toList.drop i)=(p,n)) (hn:n≠0):Chr.tok (s.data.toList.drop i)=.pc p n:=by
 rw [tok_at hi hc,if_neg h34,if_neg h32,if_neg h92,h,if_neg hn]
theorem tok_end {s:ByteArray} {i:Nat} (hi:¬ i<s.size):Chr.tok (s.data.toList.drop i)=.bad 20:=by
 rw [List.drop_of_length_le (by simp;omega)];rfl
theorem one_bytes_at {s:ByteArray} {i p n:Nat} (h:Utf.one (s.data.toList.drop i)=(p,n)) (hn:n≠0):(s.data.toList.drop i).take n=Utf.bytes p∧Utf.isPt p=true:=by
 have h1:=Utf.one_sound h hn
 refine ⟨?_,h1.1⟩
 have e:=h1.2.2
 rw [List.drop_drop] at e
 rw [e,h1.2.1,List.take_left]

def readV (x:List UInt8 × Int × Int):Value:=.tuple #[.string ⟨x.1.toArray⟩,.int .i64 x.2.1,.int .i64 x.2.2]

end Go.Proofs.YtdhakbghdcfncaaGreatDoor
