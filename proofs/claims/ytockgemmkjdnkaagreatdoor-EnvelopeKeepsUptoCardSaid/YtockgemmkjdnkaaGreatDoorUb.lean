/- The walk of the document's One. -/
import Derived.Test.YtockgemmkjdnkaaGreatDoorUa
import Derived.Test.YtockgemmkjdnkaaGreatDoorPa
set_option maxRecDepth 100000
set_option maxHeartbeats 2000000
set_option linter.unusedVariables false
set_option linter.unusedSimpArgs false
namespace Go.Proofs.YtockgemmkjdnkaaGreatDoor
open Go.RowKit

structure ROneInv (s:ByteArray) (k n0 p0 i q:Nat):Prop where
 lo:1<=i
 hi:i<=n0
 eq:Utf.rtail p0 (s.data.toList.drop (k+1)) (n0 - 1)=Utf.rtail q (s.data.toList.drop (k+i)) (n0 - i)
 b1:i=1->q<256
 b2:i=2->q<16384
 b3:i=3->q<1048576
 b4:i=4->q<67108864
theorem ROneInv.step {s:ByteArray} {k n0 p0 i q:Nat} (h:ROneInv s k n0 p0 i q) (hn:n0<=4) (hi:i<n0) (hk:k+i<s.size):
  ROneInv s k n0 p0 (i+1) (q*64+s[k+i].toNat % 64):=by
 have hl:=h.lo;have h0:=h.b1;have h1:=h.b2;have h2:=h.b3;have h3:=h.b4
 refine ⟨by omega,by omega,?_,by omega,by omega,by omega,by omega⟩;rw [h.eq,show n0 - i=(n0 - (i+1))+1 by omega,toList_drop s (k+i) hk,Utf.rtail];rfl
theorem ROneInv.done {s:ByteArray} {k n0 p0 q:Nat} (h:ROneInv s k n0 p0 n0 q):Utf.rtail p0 (s.data.toList.drop (k+1)) (n0 - 1)=q:=by
 rw [h.eq,Nat.sub_self,Utf.rtail_zero]
theorem ROneInv.bound {s:ByteArray} {k n0 p0 i q:Nat} (h:ROneInv s k n0 p0 i q) (hn:n0<=4):q<67108864:=by
 have:=h.lo;have:=h.hi;have h1:=h.b1;have h2:=h.b2;have h3:=h.b3;have h4:=h.b4;omega

theorem extract_list (s:ByteArray) (i j:Nat):(s.extract i j).data.toList=(s.data.toList.drop i).take (j - i):=by simp [ByteArray.data_extract]

theorem rone_end {s:ByteArray} {k n0 p0 q p n:Nat} {a:UInt8} (hk:k<s.size) (ha:s[k]=a) (hn0:Utf.rn a=n0) (hp0:Utf.rp a=p0) (hn1:1<=n0)
  (hq:Utf.rtail p0 (s.data.toList.drop (k+1)) (n0 - 1)=q) (h:Utf.one (s.data.toList.drop k)=(p,n)):
  ((Utf.bytesO q == (s.extract k (k+n0)).toList)=true/\p=q/\n=n0)\/((Utf.bytesO q == (s.extract k (k+n0)).toList)=false/\p=0/\n=0):=by
 rw [ByteArray.toList_eq];have e:(s.extract k (k+n0)).data.toList=(a::s.data.toList.drop (k+1)).take n0:=by
  rw [extract_list,toList_drop s k hk,ha,show k+n0 - k=n0 by omega]
 rw [toList_drop s k hk,ha] at h;subst hn0;subst hp0;by_cases hb:Utf.bytesO q=(a::s.data.toList.drop (k+1)).take (Utf.rn a)
 ·left;rw [Utf.ref_yes hq hb] at h;refine ⟨by rw [beq_iff_eq,e];exact hb,?_,?_⟩
  ·simpa using (congrArg Prod.fst h).symm
  ·simpa using (congrArg Prod.snd h).symm
 ·right;rw [Utf.ref_no hq hb] at h;refine ⟨by rw [beq_eq_false_iff_ne,e];exact hb,?_,?_⟩
  ·simpa using (congrArg Prod.fst h).symm
  ·simpa using (congrArg Prod.snd h).symm
theorem rone_short {s:ByteArray} {k n0 p n:Nat} {a:UInt8} (hk:k<s.size) (ha:s[k]=a) (hn0:Utf.rn a=n0) (hl:s.size - k<n0) (h:Utf.one (s.data.toList.drop k)=(p,n)):p=0/\n=0:=by
 rw [toList_drop s k hk,ha,Utf.ref_short (by rw [hn0];simp;omega)] at h;exact ⟨by simpa using (congrArg Prod.fst h).symm,by simpa using (congrArg Prod.snd h).symm⟩
theorem rbytes_any (q:Nat) (w:World) (hb:q<9223372036854775808):
  Calls Tryz.prog 88 #[.int .i64 q] w λe w'=>∃ v,e=.returned v/\Bs w' w.heap.size v (Utf.bytesO q)/\Fr w w':=by
 unfold Utf.bytesO;by_cases h:Utf.isPt q=true
 ·rw [if_pos h];exact rbytes_is q w h
 ·rw [if_neg h];refine (rbytes_no q w hb (by simpa using h)).mono ?_;rintro e w' ⟨rfl,rfl⟩;exact ⟨_,rfl,Bs.none_ _ _,FR _⟩

theorem rone_1 (s:ByteArray) (k p n:Nat) (a:UInt8) (w:World) (hs:s.size<=maxLen) (hk:k<s.size) (ha:s[k]=a)  (hhi:a.toNat<192) (h:Utf.one (s.data.toList.drop k)=(p,n)):
  Calls Tryz.prog 87 #[.string s,.int .i64 k] w λe w'=>e=.returned (.tuple #[.int .i64 p,.int .i64 n])/\Fr w w':=by
 unfold maxLen at hs;have hn0:Utf.rn a=1:=by unfold Utf.rn;rw [if_neg (by omega),if_neg (by omega),if_neg (by omega)]
 have hp0:Utf.rp a=a.toNat:=by unfold Utf.rp;rw [if_neg (by omega),if_neg (by omega),if_neg (by omega)]
 have ha256:=a.toNat_lt;have d1:decide ((k:Int)<0)=false:=dF (by omega);have d2:decide ((s.size:Int)<=(k:Int))=false:=dF (by omega);have d2n:decide (s.size<=k)=false:=dF (by omega);have d192:decide ((192:Int)<=(a.toNat:Int))=false:=dF (by omega);have d224:decide ((224:Int)<=(a.toNat:Int))=false:=dF (by omega);have d240:decide ((240:Int)<=(a.toNat:Int))=false:=dF (by omega);by_cases hlen:s.size - k<1
 ·obtain ⟨rfl,rfl⟩:=rone_short hk ha hn0 hlen h;have d3:decide ((s.size:Int) - (k:Int)<1)=true:=dT (by omega);clear h hn0 hp0 hlen;go_enter Tryz.func87,Tryz.ntmps87
  go_wp2_with fail
  go_ret2
  exact ⟨rfl,FR _⟩
 ·have d3:decide ((s.size:Int) - (k:Int)<1)=false:=dF (by omega);have hst:ROneInv s k 1 a.toNat 1 a.toNat:=⟨by omega,by omega,rfl,by omega,by omega,by omega,by omega⟩;have hsub:Hid (IntKind.i64.wrap ((a.toNat:Int) - 0)=((a.toNat:Nat):Int)):=by show _=_;rw [IntKind.wrap_i64];omega
  have HE:=LH (λq hq=>rone_end (q:=q) hk ha hn0 hp0 (by omega) hq h);clear h hn0 hp0;go_enter Tryz.func87,Tryz.ntmps87
  go_wp2_with fail
  go_loop [8,9] (λv j=>∃ i q:Nat,v=.int .i64 q/\j=.int .i64 i/\ROneInv s k 1 a.toNat i q) (λ_ j=>1 - (intOf j).toNat)
  case atStart=>exact ⟨1,a.toNat,by go_num,rfl,hst⟩
  case round=>
   obtain ⟨i,q,rfl,rfl,hi⟩:=hrel;have h1:=hi.lo;have h2:=hi.hi;have hqb:=hi.bound (by omega);by_cases hlt:i<1
   ·exact absurd hlt (by omega)
   ·obtain rfl:i=1:=by omega
    have hd:=hi.done;have hle:k+1<=s.size:=by omega
    have hle2:(k:Int)+1<=(s.size:Int):=by omega
    have hz1:(0:Int)<=(k:Int)+1:=by omega
    have hz2:(k:Int)<=(k:Int)+1:=by omega
    have hwr:IntKind.i64.wrap ((k:Int)+1)=(k:Int)+1:=by rw [IntKind.wrap_i64];omega
    rcases HE.out q hd with ⟨hc,rfl,rfl⟩ | ⟨hc,rfl,rfl⟩
    ·clear hi hd HE;go_wp2_with fail
     go_region_with (go_at_call 88;refine (rbytes_any p _ (by omega)).mono ?_;rintro e w1 ⟨v,rfl,hB,hfr⟩;have hcv:=hB.conv)
     all_goals (try go_wp2_with fail)
     all_goals first
      | (have hx:(!(Utf.bytesO p == (s.extract k (k+1)).toList))=true:=(by assumption);rw [hc] at hx;cases hx)
      | (go_ret2;exact ⟨rfl,(Fr.drew (FR _)).trans hfr⟩)
    ·clear hi hd HE;go_wp2_with fail
     go_region_with (go_at_call 88;refine (rbytes_any q _ (by omega)).mono ?_;rintro e w1 ⟨v,rfl,hB,hfr⟩;have hcv:=hB.conv)
     all_goals (try go_wp2_with fail)
     all_goals first
      | (have hx:(!(Utf.bytesO q == (s.extract k (k+1)).toList))=false:=(by assumption);rw [hc] at hx;cases hx)
      | (go_ret2;exact ⟨rfl,(Fr.drew (FR _)).trans hfr⟩)

theorem rone_2 (s:ByteArray) (k p n:Nat) (a:UInt8) (w:World) (hs:s.size<=maxLen) (hk:k<s.size) (ha:s[k]=a) (hlo:192<=a.toNat) (hhi:a.toNat<224) (h:Utf.one (s.data.toList.drop k)=(p,n)):
  Calls Tryz.prog 87 #[.string s,.int .i64 k] w λe w'=>e=.returned (.tuple #[.int .i64 p,.int .i64 n])/\Fr w w':=by
 unfold maxLen at hs;have hn0:Utf.rn a=2:=by unfold Utf.rn;rw [if_neg (by omega),if_neg (by omega),if_pos (by omega)]
 have hp0:Utf.rp a=(a.toNat - 192):=by unfold Utf.rp;rw [if_neg (by omega),if_neg (by omega),if_pos (by omega)]
 have ha256:=a.toNat_lt;have d1:decide ((k:Int)<0)=false:=dF (by omega);have d2:decide ((s.size:Int)<=(k:Int))=false:=dF (by omega);have d2n:decide (s.size<=k)=false:=dF (by omega);have d192:decide ((192:Int)<=(a.toNat:Int))=true:=dT (by omega);have d224:decide ((224:Int)<=(a.toNat:Int))=false:=dF (by omega);have d240:decide ((240:Int)<=(a.toNat:Int))=false:=dF (by omega);by_cases hlen:s.size - k<2
 ·obtain ⟨rfl,rfl⟩:=rone_short hk ha hn0 hlen h;have d3:decide ((s.size:Int) - (k:Int)<2)=true:=dT (by omega);clear h hn0 hp0 hlen;go_enter Tryz.func87,Tryz.ntmps87
  go_wp2_with fail
  go_ret2
  exact ⟨rfl,FR _⟩
 ·have d3:decide ((s.size:Int) - (k:Int)<2)=false:=dF (by omega);have hst:ROneInv s k 2 (a.toNat - 192) 1 (a.toNat - 192):=⟨by omega,by omega,rfl,by omega,by omega,by omega,by omega⟩;have hsub:Hid (IntKind.i64.wrap ((a.toNat:Int) - 192)=(((a.toNat - 192):Nat):Int)):=by show _=_;rw [IntKind.wrap_i64];omega
  have HE:=LH (λq hq=>rone_end (q:=q) hk ha hn0 hp0 (by omega) hq h);clear h hn0 hp0;go_enter Tryz.func87,Tryz.ntmps87
  go_wp2_with fail
  go_loop [8,9] (λv j=>∃ i q:Nat,v=.int .i64 q/\j=.int .i64 i/\ROneInv s k 2 (a.toNat - 192) i q) (λ_ j=>2 - (intOf j).toNat)
  case atStart=>exact ⟨1,(a.toNat - 192),by go_num,rfl,hst⟩
  case round=>
   obtain ⟨i,q,rfl,rfl,hi⟩:=hrel;have h1:=hi.lo;have h2:=hi.hi;have hqb:=hi.bound (by omega);by_cases hlt:i<2
   ·have hx:k+i<s.size:=by omega
    obtain ⟨b,hbb⟩:∃ b,s[k+i]=b:=⟨_,rfl⟩;have hb256:=b.toNat_lt;have hnx:=LH (hi.step (by omega) hlt hx);rw [hbb] at hnx;clear hi;go_wp2_with fail
    exact ⟨⟨i+1,q*64+b.toNat % 64,by go_num,by go_num,hnx.out⟩,by simp [intOf];omega⟩
   ·obtain rfl:i=2:=by omega
    have hd:=hi.done;have hle:k+2<=s.size:=by omega
    have hle2:(k:Int)+2<=(s.size:Int):=by omega
    have hz1:(0:Int)<=(k:Int)+2:=by omega
    have hz2:(k:Int)<=(k:Int)+2:=by omega
    have hwr:IntKind.i64.wrap ((k:Int)+2)=(k:Int)+2:=by rw [IntKind.wrap_i64];omega
    rcases HE.out q hd with ⟨hc,rfl,rfl⟩ | ⟨hc,rfl,rfl⟩
    ·clear hi hd HE;go_wp2_with fail
     go_region_with (go_at_call 88;refine (rbytes_any p _ (by omega)).mono ?_;rintro e w1 ⟨v,rfl,hB,hfr⟩;have hcv:=hB.conv)
     all_goals (try go_wp2_with fail)
     all_goals first
      | (have hx:(!(Utf.bytesO p == (s.extract k (k+2)).toList))=true:=(by assumption);rw [hc] at hx;cases hx)
      | (go_ret2;exact ⟨rfl,(Fr.drew (FR _)).trans hfr⟩)
    ·clear hi hd HE;go_wp2_with fail
     go_region_with (go_at_call 88;refine (rbytes_any q _ (by omega)).mono ?_;rintro e w1 ⟨v,rfl,hB,hfr⟩;have hcv:=hB.conv)
     all_goals (try go_wp2_with fail)
     all_goals first
      | (have hx:(!(Utf.bytesO q == (s.extract k (k+2)).toList))=false:=(by assumption);rw [hc] at hx;cases hx)
      | (go_ret2;exact ⟨rfl,(Fr.drew (FR _)).trans hfr⟩)

/- The walk of the document's One: of three and four bytes. -/

theorem rone_3 (s:ByteArray) (k p n:Nat) (a:UInt8) (w:World) (hs:s.size<=maxLen) (hk:k<s.size) (ha:s[k]=a) (hlo:224<=a.toNat) (hhi:a.toNat<240) (h:Utf.one (s.data.toList.drop k)=(p,n)):
  Calls Tryz.prog 87 #[.string s,.int .i64 k] w λe w'=>e=.returned (.tuple #[.int .i64 p,.int .i64 n])/\Fr w w':=by
 unfold maxLen at hs;have hn0:Utf.rn a=3:=by unfold Utf.rn;rw [if_neg (by omega),if_pos (by omega)]
 have hp0:Utf.rp a=(a.toNat - 224):=by unfold Utf.rp;rw [if_neg (by omega),if_pos (by omega)]
 have ha256:=a.toNat_lt;have d1:decide ((k:Int)<0)=false:=dF (by omega);have d2:decide ((s.size:Int)<=(k:Int))=false:=dF (by omega);have d2n:decide (s.size<=k)=false:=dF (by omega);have d192:decide ((192:Int)<=(a.toNat:Int))=true:=dT (by omega);have d224:decide ((224:Int)<=(a.toNat:Int))=true:=dT (by omega);have d240:decide ((240:Int)<=(a.toNat:Int))=false:=dF (by omega);by_cases hlen:s.size - k<3
 ·obtain ⟨rfl,rfl⟩:=rone_short hk ha hn0 hlen h;have d3:decide ((s.size:Int) - (k:Int)<3)=true:=dT (by omega);clear h hn0 hp0 hlen;go_enter Tryz.func87,Tryz.ntmps87
  go_wp2_with fail
  go_ret2
  exact ⟨rfl,FR _⟩
 ·have d3:decide ((s.size:Int) - (k:Int)<3)=false:=dF (by omega);have hst:ROneInv s k 3 (a.toNat - 224) 1 (a.toNat - 224):=⟨by omega,by omega,rfl,by omega,by omega,by omega,by omega⟩;have hsub:Hid (IntKind.i64.wrap ((a.toNat:Int) - 224)=(((a.toNat - 224):Nat):Int)):=by show _=_;rw [IntKind.wrap_i64];omega
  have HE:=LH (λq hq=>rone_end (q:=q) hk ha hn0 hp0 (by omega) hq h);clear h hn0 hp0;go_enter Tryz.func87,Tryz.ntmps87
  go_wp2_with fail
  go_loop [8,9] (λv j=>∃ i q:Nat,v=.int .i64 q/\j=.int .i64 i/\ROneInv s k 3 (a.toNat - 224) i q) (λ_ j=>3 - (intOf j).toNat)
  case atStart=>exact ⟨1,(a.toNat - 224),by go_num,rfl,hst⟩
  case round=>
   obtain ⟨i,q,rfl,rfl,hi⟩:=hrel;have h1:=hi.lo;have h2:=hi.hi;have hqb:=hi.bound (by omega);by_cases hlt:i<3
   ·have hx:k+i<s.size:=by omega
    obtain ⟨b,hbb⟩:∃ b,s[k+i]=b:=⟨_,rfl⟩;have hb256:=b.toNat_lt;have hnx:=LH (hi.step (by omega) hlt hx);rw [hbb] at hnx;clear hi;go_wp2_with fail
    exact ⟨⟨i+1,q*64+b.toNat % 64,by go_num,by go_num,hnx.out⟩,by simp [intOf];omega⟩
   ·obtain rfl:i=3:=by omega
    have hd:=hi.done;have hle:k+3<=s.size:=by omega
    have hle2:(k:Int)+3<=(s.size:Int):=by omega
    have hz1:(0:Int)<=(k:Int)+3:=by omega
    have hz2:(k:Int)<=(k:Int)+3:=by omega
    have hwr:IntKind.i64.wrap ((k:Int)+3)=(k:Int)+3:=by rw [IntKind.wrap_i64];omega
    rcases HE.out q hd with ⟨hc,rfl,rfl⟩ | ⟨hc,rfl,rfl⟩
    ·clear hi hd HE;go_wp2_with fail
     go_region_with (go_at_call 88;refine (rbytes_any p _ (by omega)).mono ?_;rintro e w1 ⟨v,rfl,hB,hfr⟩;have hcv:=hB.conv)
     all_goals (try go_wp2_with fail)
     all_goals first
      | (have hx:(!(Utf.bytesO p == (s.extract k (k+3)).toList))=true:=(by assumption);rw [hc] at hx;cases hx)
      | (go_ret2;exact ⟨rfl,(Fr.drew (FR _)).trans hfr⟩)
    ·clear hi hd HE;go_wp2_with fail
     go_region_with (go_at_call 88;refine (rbytes_any q _ (by omega)).mono ?_;rintro e w1 ⟨v,rfl,hB,hfr⟩;have hcv:=hB.conv)
     all_goals (try go_wp2_with fail)
     all_goals first
      | (have hx:(!(Utf.bytesO q == (s.extract k (k+3)).toList))=false:=(by assumption);rw [hc] at hx;cases hx)
      | (go_ret2;exact ⟨rfl,(Fr.drew (FR _)).trans hfr⟩)

theorem rone_4 (s:ByteArray) (k p n:Nat) (a:UInt8) (w:World) (hs:s.size<=maxLen) (hk:k<s.size) (ha:s[k]=a) (hlo:240<=a.toNat)  (h:Utf.one (s.data.toList.drop k)=(p,n)):
  Calls Tryz.prog 87 #[.string s,.int .i64 k] w λe w'=>e=.returned (.tuple #[.int .i64 p,.int .i64 n])/\Fr w w':=by
 unfold maxLen at hs;have hn0:Utf.rn a=4:=by unfold Utf.rn;rw [if_pos (by omega)]
 have hp0:Utf.rp a=(a.toNat - 240):=by unfold Utf.rp;rw [if_pos (by omega)]
 have ha256:=a.toNat_lt;have d1:decide ((k:Int)<0)=false:=dF (by omega);have d2:decide ((s.size:Int)<=(k:Int))=false:=dF (by omega);have d2n:decide (s.size<=k)=false:=dF (by omega);have d192:decide ((192:Int)<=(a.toNat:Int))=true:=dT (by omega);have d224:decide ((224:Int)<=(a.toNat:Int))=true:=dT (by omega);have d240:decide ((240:Int)<=(a.toNat:Int))=true:=dT (by omega);by_cases hlen:s.size - k<4
 ·obtain ⟨rfl,rfl⟩:=rone_short hk ha hn0 hlen h;have d3:decide ((s.size:Int) - (k:Int)<4)=true:=dT (by omega);clear h hn0 hp0 hlen;go_enter Tryz.func87,Tryz.ntmps87
  go_wp2_with fail
  go_ret2
  exact ⟨rfl,FR _⟩
 ·have d3:decide ((s.size:Int) - (k:Int)<4)=false:=dF (by omega);have hst:ROneInv s k 4 (a.toNat - 240) 1 (a.toNat - 240):=⟨by omega,by omega,rfl,by omega,by omega,by omega,by omega⟩;have hsub:Hid (IntKind.i64.wrap ((a.toNat:Int) - 240)=(((a.toNat - 240):Nat):Int)):=by show _=_;rw [IntKind.wrap_i64];omega
  have HE:=LH (λq hq=>rone_end (q:=q) hk ha hn0 hp0 (by omega) hq h);clear h hn0 hp0;go_enter Tryz.func87,Tryz.ntmps87
  go_wp2_with fail
  go_loop [8,9] (λv j=>∃ i q:Nat,v=.int .i64 q/\j=.int .i64 i/\ROneInv s k 4 (a.toNat - 240) i q) (λ_ j=>4 - (intOf j).toNat)
  case atStart=>exact ⟨1,(a.toNat - 240),by go_num,rfl,hst⟩
  case round=>
   obtain ⟨i,q,rfl,rfl,hi⟩:=hrel;have h1:=hi.lo;have h2:=hi.hi;have hqb:=hi.bound (by omega);by_cases hlt:i<4
   ·have hx:k+i<s.size:=by omega
    obtain ⟨b,hbb⟩:∃ b,s[k+i]=b:=⟨_,rfl⟩;have hb256:=b.toNat_lt;have hnx:=LH (hi.step (by omega) hlt hx);rw [hbb] at hnx;clear hi;go_wp2_with fail
    exact ⟨⟨i+1,q*64+b.toNat % 64,by go_num,by go_num,hnx.out⟩,by simp [intOf];omega⟩
   ·obtain rfl:i=4:=by omega
    have hd:=hi.done;have hle:k+4<=s.size:=by omega
    have hle2:(k:Int)+4<=(s.size:Int):=by omega
    have hz1:(0:Int)<=(k:Int)+4:=by omega
    have hz2:(k:Int)<=(k:Int)+4:=by omega
    have hwr:IntKind.i64.wrap ((k:Int)+4)=(k:Int)+4:=by rw [IntKind.wrap_i64];omega
    rcases HE.out q hd with ⟨hc,rfl,rfl⟩ | ⟨hc,rfl,rfl⟩
    ·clear hi hd HE;go_wp2_with fail
     go_region_with (go_at_call 88;refine (rbytes_any p _ (by omega)).mono ?_;rintro e w1 ⟨v,rfl,hB,hfr⟩;have hcv:=hB.conv)
     all_goals (try go_wp2_with fail)
     all_goals first
      | (have hx:(!(Utf.bytesO p == (s.extract k (k+4)).toList))=true:=(by assumption);rw [hc] at hx;cases hx)
      | (go_ret2;exact ⟨rfl,(Fr.drew (FR _)).trans hfr⟩)
    ·clear hi hd HE;go_wp2_with fail
     go_region_with (go_at_call 88;refine (rbytes_any q _ (by omega)).mono ?_;rintro e w1 ⟨v,rfl,hB,hfr⟩;have hcv:=hB.conv)
     all_goals (try go_wp2_with fail)
     all_goals first
      | (have hx:(!(Utf.bytesO q == (s.extract k (k+4)).toList))=false:=(by assumption);rw [hc] at hx;cases hx)
      | (go_ret2;exact ⟨rfl,(Fr.drew (FR _)).trans hfr⟩)

/- Walks: the document's One, Points. -/

theorem rone_is (s:ByteArray) (k p n:Nat) (w:World) (hs:s.size<=maxLen) (hk:k<s.size) (h:Utf.one (s.data.toList.drop k)=(p,n)):
  Calls Tryz.prog 87 #[.string s,.int .i64 k] w λe w'=>e=.returned (.tuple #[.int .i64 p,.int .i64 n])/\Fr w w':=by
 obtain ⟨a,ha⟩:∃ a,s[k]=a:=⟨_,rfl⟩;by_cases c1:a.toNat<192
 ·exact rone_1 s k p n a w hs hk ha c1 h
 by_cases c2:a.toNat<224
 ·exact rone_2 s k p n a w hs hk ha (by omega) c2 h
 by_cases c3:a.toNat<240
 ·exact rone_3 s k p n a w hs hk ha (by omega) c3 h
 ·exact rone_4 s k p n a w hs hk ha (by omega) h

def pvs (l:List Nat):List Value:=l.map λ(p:Nat)=>.int .i64 p
def Ps (w:World) (base:Nat) (v:Value) (l:List Nat):Prop:=Row w base 2 v (pvs l)
/- Walks of chars' small functions: plain; the document's hex, digit. -/

theorem plain_is (c:UInt8) (w:World):
  Calls Tryz.prog 105 #[.int .u8 c.toNat] w λe w'=>e=.returned (.tuple #[.int .u8 ((Chr.plain c).getD 0).toNat,.bool (Chr.plain c).isSome])/\w=w':=by
 by_cases h0:c=34
 ·subst h0;go_enter Tryz.func105,Tryz.ntmps105
  go_wp2_with fail
  go_ret2
  exact ⟨rfl,rfl⟩
 have e0:=u8neq (d:=34) (by omega) h0;by_cases h1:c=92
 ·subst h1;go_enter Tryz.func105,Tryz.ntmps105
  go_wp2_with fail
  go_ret2
  exact ⟨rfl,rfl⟩
 have e1:=u8neq (d:=92) (by omega) h1;by_cases h2:c=47
 ·subst h2;go_enter Tryz.func105,Tryz.ntmps105
  go_wp2_with fail
  go_ret2
  exact ⟨rfl,rfl⟩
 have e2:=u8neq (d:=47) (by omega) h2;by_cases h3:c=98
 ·subst h3;go_enter Tryz.func105,Tryz.ntmps105
  go_wp2_with fail
  go_ret2
  exact ⟨rfl,rfl⟩
 have e3:=u8neq (d:=98) (by omega) h3;by_cases h4:c=102
 ·subst h4;go_enter Tryz.func105,Tryz.ntmps105
  go_wp2_with fail
  go_ret2
  exact ⟨rfl,rfl⟩
 have e4:=u8neq (d:=102) (by omega) h4;by_cases h5:c=110
 ·subst h5;go_enter Tryz.func105,Tryz.ntmps105
  go_wp2_with fail
  go_ret2
  exact ⟨rfl,rfl⟩
 have e5:=u8neq (d:=110) (by omega) h5;by_cases h6:c=114
 ·subst h6;go_enter Tryz.func105,Tryz.ntmps105
  go_wp2_with fail
  go_ret2
  exact ⟨rfl,rfl⟩
 have e6:=u8neq (d:=114) (by omega) h6;by_cases h7:c=116
 ·subst h7;go_enter Tryz.func105,Tryz.ntmps105
  go_wp2_with fail
  go_ret2
  exact ⟨rfl,rfl⟩
 have e7:=u8neq (d:=116) (by omega) h7;have hr:Hid (Chr.plain c=none):=by show _=_;unfold Chr.plain;rw [if_neg h0,if_neg h1,if_neg h2,if_neg h3,if_neg h4,if_neg h5,if_neg h6,if_neg h7]
 clear h0 h1 h2 h3 h4 h5 h6 h7;go_enter Tryz.func105,Tryz.ntmps105
 go_wp2_with fail
 go_ret2
 exact ⟨by rw [hr.out];rfl,rfl⟩

def rdig (c:UInt8):Int:=match Chr.hexv c with | some d=>d | none=>-1

theorem rdigit_is (c:UInt8) (w:World):
  Calls Tryz.prog 111 #[.int .u8 c.toNat] w λe w'=>e=.returned (.int .i64 (rdig c))/\w=w':=by
 have hc:=c.toNat_lt;have hcls:c.toNat<48\/(48<=c.toNat/\c.toNat<=57)\/(58<=c.toNat/\c.toNat<=64)\/(65<=c.toNat/\c.toNat<=70)\/(71<=c.toNat/\c.toNat<=96)\/(97<=c.toNat/\c.toNat<=102)\/103<=c.toNat:=by omega
 rcases hcls with h | h | h | h | h | h | h
 ·have hr:Hid (rdig c = -1):=by show _=_;unfold rdig Chr.hexv;rw [if_neg (by omega),if_neg (by omega),if_neg (by omega)]
  have a48:decide ((48:Int)<=(c.toNat:Int))=false:=dF (by omega);have a65:decide ((65:Int)<=(c.toNat:Int))=false:=dF (by omega);have a97:decide ((97:Int)<=(c.toNat:Int))=false:=dF (by omega);have a57:decide ((c.toNat:Int)<=57)=true:=dT (by omega);have a70:decide ((c.toNat:Int)<=70)=true:=dT (by omega);have a102:decide ((c.toNat:Int)<=102)=true:=dT (by omega);go_enter Tryz.func111,Tryz.ntmps111
  go_wp2_with fail
  go_ret
  exact ⟨ret_int (by rw [hr.out]),rfl⟩
 ·have hr:Hid (rdig c=((c.toNat:Int) - 48)):=by show _=_;unfold rdig Chr.hexv;rw [if_pos (by omega)];simp only;omega
  have a48:decide ((48:Int)<=(c.toNat:Int))=true:=dT (by omega);have a65:decide ((65:Int)<=(c.toNat:Int))=false:=dF (by omega);have a97:decide ((97:Int)<=(c.toNat:Int))=false:=dF (by omega);have a57:decide ((c.toNat:Int)<=57)=true:=dT (by omega);have a70:decide ((c.toNat:Int)<=70)=true:=dT (by omega);have a102:decide ((c.toNat:Int)<=102)=true:=dT (by omega);go_enter Tryz.func111,Tryz.ntmps111
  go_wp2_with fail
  go_ret
  exact ⟨ret_int (by rw [hr.out]),rfl⟩
 ·have hr:Hid (rdig c = -1):=by show _=_;unfold rdig Chr.hexv;rw [if_neg (by omega),if_neg (by omega),if_neg (by omega)]
  have a48:decide ((48:Int)<=(c.toNat:Int))=true:=dT (by omega);have a65:decide ((65:Int)<=(c.toNat:Int))=false:=dF (by omega);have a97:decide ((97:Int)<=(c.toNat:Int))=false:=dF (by omega);have a57:decide ((c.toNat:Int)<=57)=false:=dF (by omega);have a70:decide ((c.toNat:Int)<=70)=true:=dT (by omega);have a102:decide ((c.toNat:Int)<=102)=true:=dT (by omega);go_enter Tryz.func111,Tryz.ntmps111
  go_wp2_with fail
  go_ret
  exact ⟨ret_int (by rw [hr.out]),rfl⟩
 ·have hr:Hid (rdig c=((c.toNat:Int) - 55)):=by show _=_;unfold rdig Chr.hexv;rw [if_neg (by omega),if_pos (by omega)];simp only;omega
  have a48:decide ((48:Int)<=(c.toNat:Int))=true:=dT (by omega);have a65:decide ((65:Int)<=(c.toNat:Int))=true:=dT (by omega);have a97:decide ((97:Int)<=(c.toNat:Int))=false:=dF (by omega);have a57:decide ((c.toNat:Int)<=57)=false:=dF (by omega);have a70:decide ((c.toNat:Int)<=70)=true:=dT (by omega);have a102:decide ((c.toNat:Int)<=102)=true:=dT (by omega);go_enter Tryz.func111,Tryz.ntmps111
  go_wp2_with fail
  go_ret
  exact ⟨ret_int (by rw [hr.out]),rfl⟩
 ·have hr:Hid (rdig c = -1):=by show _=_;unfold rdig Chr.hexv;rw [if_neg (by omega),if_neg (by omega),if_neg (by omega)]
  have a48:decide ((48:Int)<=(c.toNat:Int))=true:=dT (by omega);have a65:decide ((65:Int)<=(c.toNat:Int))=true:=dT (by omega);have a97:decide ((97:Int)<=(c.toNat:Int))=false:=dF (by omega);have a57:decide ((c.toNat:Int)<=57)=false:=dF (by omega);have a70:decide ((c.toNat:Int)<=70)=false:=dF (by omega);have a102:decide ((c.toNat:Int)<=102)=true:=dT (by omega);go_enter Tryz.func111,Tryz.ntmps111
  go_wp2_with fail
  go_ret
  exact ⟨ret_int (by rw [hr.out]),rfl⟩
 ·have hr:Hid (rdig c=((c.toNat:Int) - 87)):=by show _=_;unfold rdig Chr.hexv;rw [if_neg (by omega),if_neg (by omega),if_pos (by omega)];simp only;omega
  have a48:decide ((48:Int)<=(c.toNat:Int))=true:=dT (by omega);have a65:decide ((65:Int)<=(c.toNat:Int))=true:=dT (by omega);have a97:decide ((97:Int)<=(c.toNat:Int))=true:=dT (by omega);have a57:decide ((c.toNat:Int)<=57)=false:=dF (by omega);have a70:decide ((c.toNat:Int)<=70)=false:=dF (by omega);have a102:decide ((c.toNat:Int)<=102)=true:=dT (by omega);go_enter Tryz.func111,Tryz.ntmps111
  go_wp2_with fail
  go_ret
  exact ⟨ret_int (by rw [hr.out]),rfl⟩
 ·have hr:Hid (rdig c = -1):=by show _=_;unfold rdig Chr.hexv;rw [if_neg (by omega),if_neg (by omega),if_neg (by omega)]
  have a48:decide ((48:Int)<=(c.toNat:Int))=true:=dT (by omega);have a65:decide ((65:Int)<=(c.toNat:Int))=true:=dT (by omega);have a97:decide ((97:Int)<=(c.toNat:Int))=true:=dT (by omega);have a57:decide ((c.toNat:Int)<=57)=false:=dF (by omega);have a70:decide ((c.toNat:Int)<=70)=false:=dF (by omega);have a102:decide ((c.toNat:Int)<=102)=false:=dF (by omega);go_enter Tryz.func111,Tryz.ntmps111
  go_wp2_with fail
  go_ret
  exact ⟨ret_int (by rw [hr.out]),rfl⟩

end Go.Proofs.YtockgemmkjdnkaaGreatDoor
