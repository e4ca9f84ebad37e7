/- The walk of utf.Put. -/
import Derived.Test.YtdhakbghdcfncaaGreatDoorUb
import Derived.Test.YtdhakbghdcfncaaGreatDoorCharsC
import Derived.Test.YtdhakbghdcfncaaGreatDoorUa
namespace Go.Proofs.YtdhakbghdcfncaaGreatDoor
set_option maxRecDepth 100000
set_option maxHeartbeats 4000000
set_option linter.unusedVariables false
set_option linter.unusedSimpArgs false
open Go.RowKit

theorem i32_and63 (x:Nat) (h:x<2147483648):bits BinOp.and IntKind.i32 (x:Int) 63=((x % 64:Nat):Int):=by
 have:=bits_mask .i32 31 (by decide) wraps_i32 6 (by decide) (x:Int) (by omega) (by omega)
 have e:bits BinOp.and IntKind.i32 (x:Int) 63=(x:Int) % 2 ^ 6:=this
 rw [e];omega
theorem i32_or_head (h:Int) (r i:Nat) (hi:i≤8) (h0:0≤h) (h1:h<256) (hm:h % 2 ^ i=0) (hr:(r:Int)<2 ^ i) (hr2:r<256):bits BinOp.or IntKind.i32 h (r:Int)=h+r:=
 bits_join .i32 31 (by decide) wraps_i32 i h r h0 hm (by omega) (by omega) hr (by omega)

theorem low_0 (b p:Nat) (w:World) (hp:p≤1114111) (hc:w.cell? ⟨b,0,none⟩=some (.int .i32 p)):
  Calls Tryz.prog 123 #[.int .u64 0,.pointer (some ⟨b,0,none⟩)] w fun e w'=>e=.returned (.int .u8 ((128+p % 64:Nat):Int))∧w=w':=by
 obtain ⟨q,hq⟩:∃ q:Nat,p=q:=⟨_,rfl⟩
 have hqi:(p:Int)=(q:Int):=by omega
 have h1:bits BinOp.and IntKind.i32 (q:Int) 63=(q:Int) % 64:=by rw [i32_and63 q (by omega)];omega
 have h2:bits BinOp.or IntKind.i32 128 ((q:Int) % 64)=128+(q:Int) % 64:=by
  have:=i32_or_head 128 (q % 64) 6 (by omega) (by omega) (by omega) (by decide) (by omega) (by omega)
  rw [show (q:Int) % 64=((q % 64:Nat):Int) by omega,this]
 rw [hq]
 clear hq
 go_enter Tryz.func123,Tryz.ntmps123
 go_wp2_with fail
 go_ret
 exact ⟨ret_int (by omega),rfl⟩

theorem low_6 (b p:Nat) (w:World) (hp:p≤1114111) (hc:w.cell? ⟨b,0,none⟩=some (.int .i32 p)):
  Calls Tryz.prog 123 #[.int .u64 6,.pointer (some ⟨b,0,none⟩)] w fun e w'=>e=.returned (.int .u8 ((128+p / 64 % 64:Nat):Int))∧w=w':=by
 obtain ⟨q,hq⟩:∃ q:Nat,p / 64=q:=⟨_,rfl⟩
 have hqi:(p:Int) / 64=(q:Int):=by omega
 have h1:bits BinOp.and IntKind.i32 (q:Int) 63=(q:Int) % 64:=by rw [i32_and63 q (by omega)];omega
 have h2:bits BinOp.or IntKind.i32 128 ((q:Int) % 64)=128+(q:Int) % 64:=by
  have:=i32_or_head 128 (q % 64) 6 (by omega) (by omega) (by omega) (by decide) (by omega) (by omega)
  rw [show (q:Int) % 64=((q % 64:Nat):Int) by omega,this]
 rw [hq]
 clear hq
 go_enter Tryz.func123,Tryz.ntmps123
 go_wp2_with fail
 go_ret
 exact ⟨ret_int (by omega),rfl⟩

theorem low_12 (b p:Nat) (w:World) (hp:p≤1114111) (hc:w.cell? ⟨b,0,none⟩=some (.int .i32 p)):
  Calls Tryz.prog 123 #[.int .u64 12,.pointer (some ⟨b,0,none⟩)] w fun e w'=>e=.returned (.int .u8 ((128+p / 4096 % 64:Nat):Int))∧w=w':=by
 obtain ⟨q,hq⟩:∃ q:Nat,p / 4096=q:=⟨_,rfl⟩
 have hqi:(p:Int) / 4096=(q:Int):=by omega
 have h1:bits BinOp.and IntKind.i32 (q:Int) 63=(q:Int) % 64:=by rw [i32_and63 q (by omega)];omega
 have h2:bits BinOp.or IntKind.i32 128 ((q:Int) % 64)=128+(q:Int) % 64:=by
  have:=i32_or_head 128 (q % 64) 6 (by omega) (by omega) (by omega) (by decide) (by omega) (by omega)
  rw [show (q:Int) % 64=((q % 64:Nat):Int) by omega,this]
 rw [hq]
 clear hq
 go_enter Tryz.func123,Tryz.ntmps123
 go_wp2_with fail
 go_ret
 exact ⟨ret_int (by omega),rfl⟩


theorem put_pt (p:Nat) (w:World) (h:Utf.isPt p=true):
  Calls Tryz.prog 117 #[.int .i32 p] w fun e w'=>e=.returned (.string ⟨(Utf.bytes p).toArray⟩)∧Fr w w':=by
 have hp:=Utf.isPt_iff.1 h
 have hq:p≤1114111:=hp.1
 have d0:decide ((p:Int)<0)=false:=decide_eq_false (by omega)
 have d1:decide ((1114111:Int)<(p:Int))=false:=decide_eq_false (by omega)
 clear h
 by_cases c1:p<128
 ·have e1:decide ((p:Int)<128)=true:=decide_eq_true (by omega)
  have e3:decide ((55296:Int)≤(p:Int))=false:=decide_eq_false (by omega)
  clear hp
  go_enter Tryz.func117,Tryz.ntmps117
  go_wp2_with fail
  go_ret
  refine ⟨?_,by repeat' (first | exact Fr.refl _ | refine Fr.alloc ?_ _ | refine Fr.drew ?_)⟩
  rw [show Utf.bytes p=[UInt8.ofNat p] by unfold Utf.bytes;rw [if_pos c1]]
  rfl
 have e1:decide ((p:Int)<128)=false:=decide_eq_false (by omega)
 have hc1:(w.alloc (.cells #[.int .i32 p] 21)).cell? ⟨w.heap.size,0,none⟩=some (.int .i32 p):=by
  rw [World.cell?_alloc_at _ _ _ _ rfl];rfl
 by_cases c2:p<2048
 ·have e2:decide ((p:Int)<2048)=true:=decide_eq_true (by omega)
  have hB:Hid (Utf.bytes p=[UInt8.ofNat (192+p / 64),UInt8.ofNat (128+p % 64)]):=by show _=_;unfold Utf.bytes;rw [if_neg (by omega),if_pos (by omega)]
  have ho:bits BinOp.or IntKind.i32 192 ((p:Int) / 64)=192+(p:Int) / 64:=by
   have:=i32_or_head 192 (p / 64) 6 (by omega) (by omega) (by omega) (by decide) (by omega) (by omega)
   rw [show (p:Int) / 64=((p / 64:Nat):Int) by omega,this]
  have hw:IntKind.u8.wrap (192+(p:Int) / 64)=192+(p:Int) / 64:=by rw [IntKind.wrap_u8];omega
  have t0:(192+(p:Int) / 64).toNat=192+p / 64:=by omega
  have t1:(128+(p:Int) % 64).toNat=128+p % 64:=by omega
  have T0:=Lib.hid t0
  have T1:=Lib.hid t1
  clear t0 t1
  have e9:decide ((55296:Int)≤(p:Int))=false:=decide_eq_false (by omega)
  clear hp
  go_enter Tryz.func117,Tryz.ntmps117
  go_wp2_with fail
  go_region_with (first | (go_at_call_of 123 (Value.int .u64 0);refine (low_0 _ p _ hq (by exact hc1)).mono ?_;rintro e w' ⟨rfl,rfl⟩))
  all_goals (try go_wp2_with fail)
  all_goals
   go_ret
   exact ⟨congrArg (fun x=>Ending.returned (Value.string ⟨x⟩)) (by show #[UInt8.ofNat (192+(p:Int) / 64).toNat,UInt8.ofNat (128+(p:Int) % 64).toNat]=_;rw [hB.out,T0.out,T1.out]),by repeat' (first | exact Fr.refl _ | refine Fr.alloc ?_ _ | refine Fr.drew ?_)⟩
 by_cases c3:p<65536
 ·have e2:decide ((p:Int)<2048)=false:=decide_eq_false (by omega)
  have e3:decide ((p:Int)<65536)=true:=decide_eq_true (by omega)
  have hB:Hid (Utf.bytes p=[UInt8.ofNat (224+p / 4096),UInt8.ofNat (128+p / 64 % 64),UInt8.ofNat (128+p % 64)]):=by show _=_;unfold Utf.bytes;rw [if_neg (by omega),if_neg (by omega),if_pos (by omega)]
  have ho:bits BinOp.or IntKind.i32 224 ((p:Int) / 4096)=224+(p:Int) / 4096:=by
   have:=i32_or_head 224 (p / 4096) 4 (by omega) (by omega) (by omega) (by decide) (by omega) (by omega)
   rw [show (p:Int) / 4096=((p / 4096:Nat):Int) by omega,this]
  have hw:IntKind.u8.wrap (224+(p:Int) / 4096)=224+(p:Int) / 4096:=by rw [IntKind.wrap_u8];omega
  have t0:(224+(p:Int) / 4096).toNat=224+p / 4096:=by omega
  have t1:(128+(p:Int) / 64 % 64).toNat=128+p / 64 % 64:=by omega
  have t2:(128+(p:Int) % 64).toNat=128+p % 64:=by omega
  have T0:=Lib.hid t0
  have T1:=Lib.hid t1
  have T2:=Lib.hid t2
  clear t0 t1 t2
  by_cases c9:p<55296
  ·have e9:decide ((55296:Int)≤(p:Int))=false:=decide_eq_false (by omega)
   clear hp
   go_enter Tryz.func117,Tryz.ntmps117
   go_wp2_with fail
   go_region_with (first | (go_at_call_of 123 (Value.int .u64 6);refine (low_6 _ p _ hq (by exact hc1)).mono ?_;rintro e w' ⟨rfl,rfl⟩) | (go_at_call_of 123 (Value.int .u64 0);refine (low_0 _ p _ hq (by exact hc1)).mono ?_;rintro e w' ⟨rfl,rfl⟩))
   all_goals (try go_wp2_with fail)
   all_goals
    go_ret
    exact ⟨congrArg (fun x=>Ending.returned (Value.string ⟨x⟩)) (by show #[UInt8.ofNat (224+(p:Int) / 4096).toNat,UInt8.ofNat (128+(p:Int) / 64 % 64).toNat,UInt8.ofNat (128+(p:Int) % 64).toNat]=_;rw [hB.out,T0.out,T1.out,T2.out]),by repeat' (first | exact Fr.refl _ | refine Fr.alloc ?_ _ | refine Fr.drew ?_)⟩
  ·have e9:decide ((55296:Int)≤(p:Int))=true:=decide_eq_true (by omega)
   have e10:decide ((p:Int)≤57343)=false:=decide_eq_false (by omega)
   clear hp
   go_enter Tryz.func117,Tryz.ntmps117
   go_wp2_with fail
   go_region_with (first | (go_at_call_of 123 (Value.int .u64 6);refine (low_6 _ p _ hq (by exact hc1)).mono ?_;rintro e w' ⟨rfl,rfl⟩) | (go_at_call_of 123 (Value.int .u64 0);refine (low_0 _ p _ hq (by exact hc1)).mono ?_;rintro e w' ⟨rfl,rfl⟩))
   all_goals (try go_wp2_with fail)
   all_goals
    go_ret
    exact ⟨congrArg (fun x=>Ending.returned (Value.string ⟨x⟩)) (by show #[UInt8.ofNat (224+(p:Int) / 4096).toNat,UInt8.ofNat (128+(p:Int) / 64 % 64).toNat,UInt8.ofNat (128+(p:Int) % 64).toNat]=_;rw [hB.out,T0.out,T1.out,T2.out]),by repeat' (first | exact Fr.refl _ | refine Fr.alloc ?_ _ | refine Fr.drew ?_)⟩
 have e2:decide ((p:Int)<2048)=false:=decide_eq_false (by omega)
 have e3:decide ((p:Int)<65536)=false:=decide_eq_false (by omega)
 have hB:Hid (Utf.bytes p=[UInt8.ofNat (240+p / 262144),UInt8.ofNat (128+p / 4096 % 64),UInt8.ofNat (128+p / 64 % 64),UInt8.ofNat (128+p % 64)]):=by show _=_;unfold Utf.bytes;rw [if_neg (by omega),if_neg (by omega),if_neg (by omega)]
 have ho:bits BinOp.or IntKind.i32 240 ((p:Int) / 262144)=240+(p:Int) / 262144:=by
  have:=i32_or_head 240 (p / 262144) 3 (by omega) (by omega) (by omega) (by decide) (by omega) (by omega)
  rw [show (p:Int) / 262144=((p / 262144:Nat):Int) by omega,this]
 have hw:IntKind.u8.wrap (240+(p:Int) / 262144)=240+(p:Int) / 262144:=by rw [IntKind.wrap_u8];omega
 have t0:(240+(p:Int) / 262144).toNat=240+p / 262144:=by omega
 have t1:(128+(p:Int) / 4096 % 64).toNat=128+p / 4096 % 64:=by omega
 have t2:(128+(p:Int) / 64 % 64).toNat=128+p / 64 % 64:=by omega
 have t3:(128+(p:Int) % 64).toNat=128+p % 64:=by omega
 have T0:=Lib.hid t0
 have T1:=Lib.hid t1
 have T2:=Lib.hid t2
 have T3:=Lib.hid t3
 clear t0 t1 t2 t3
 have e9:decide ((55296:Int)≤(p:Int))=true:=decide_eq_true (by omega)
 have e10:decide ((p:Int)≤57343)=false:=decide_eq_false (by omega)
 clear hp
 go_enter Tryz.func117,Tryz.ntmps117
 go_wp2_with fail
 go_region_with (first | (go_at_call_of 123 (Value.int .u64 12);refine (low_12 _ p _ hq (by exact hc1)).mono ?_;rintro e w' ⟨rfl,rfl⟩) | (go_at_call_of 123 (Value.int .u64 6);refine (low_6 _ p _ hq (by exact hc1)).mono ?_;rintro e w' ⟨rfl,rfl⟩) | (go_at_call_of 123 (Value.int .u64 0);refine (low_0 _ p _ hq (by exact hc1)).mono ?_;rintro e w' ⟨rfl,rfl⟩))
 all_goals (try go_wp2_with fail)
 all_goals
  go_ret
  exact ⟨congrArg (fun x=>Ending.returned (Value.string ⟨x⟩)) (by show #[UInt8.ofNat (240+(p:Int) / 262144).toNat,UInt8.ofNat (128+(p:Int) / 4096 % 64).toNat,UInt8.ofNat (128+(p:Int) / 64 % 64).toNat,UInt8.ofNat (128+(p:Int) % 64).toNat]=_;rw [hB.out,T0.out,T1.out,T2.out,T3.out]),by repeat' (first | exact Fr.refl _ | refine Fr.alloc ?_ _ | refine Fr.drew ?_)⟩
def ptV (p:Nat):Value:=.string ⟨(Utf.bytes p).toArray⟩

/- The walk of chars.escaped. -/

def escR (o:Option (Nat × Nat)):Value:=.tuple #[.string ⟨(o.elim [] (fun x=>Utf.bytes x.1)).toArray⟩,.int .i64 (o.elim 0 (fun x=>x.2):Nat)]

theorem plain_at (c:UInt8) (o:Option UInt8) (w:World) (h:Chr.plain c=o):
  Calls Tryz.prog 115 #[.int .u8 c.toNat] w fun e w'=>e=.returned (.tuple #[.int .u8 (o.getD 0).toNat,.bool o.isSome])∧w=w':=by
 subst h;exact plain_is c w
theorem unit_none (s:ByteArray) (k:Nat) (w:World) (hs:s.size≤maxLen) (hk:k≤9223372036854775000) (hT:LowTabs w) (h:Chr.unitv (s.data.toList.drop k)=none):
  Calls Tryz.prog 116 #[.string s,.int .i64 k] w fun e w'=>e=.returned (.tuple #[.int .i32 0,.bool false])∧Fr w w':=unit_is s k none w hs hk hT h
theorem unit_some (s:ByteArray) (k a:Nat) (w:World) (hs:s.size≤maxLen) (hk:k≤9223372036854775000) (hT:LowTabs w) (h:Chr.unitv (s.data.toList.drop k)=some a):
  Calls Tryz.prog 116 #[.string s,.int .i64 k] w fun e w'=>e=.returned (.tuple #[.int .i32 a,.bool true])∧Fr w w':=unit_is s k (some a) w hs hk hT h

theorem byte_ofNat (x:UInt8):UInt8.ofNat x.toNat=x:=by simp
theorem escd_short {s:ByteArray} {k:Nat} (h:s.size - k<2):Chr.escd (s.data.toList.drop k)=none:=by
 unfold Chr.escd
 have e:(s.data.toList.drop k).getD 1 0=0:=by
  rw [List.getD_eq_getElem?_getD,List.getElem?_eq_none (by simp;omega)];rfl
 rw [e,show Chr.plain 0=none from rfl]
 simp only
 unfold Chr.escu
 rw [Chr.unitv_short (by simp;omega)]
theorem escd_at {s:ByteArray} {k:Nat} {c:UInt8} (h:k+1<s.size) (hc:s[k+1]=c):Chr.escd (s.data.toList.drop k)=match Chr.plain c with | some p=>some (p.toNat,2) | none=>Chr.escu (s.data.toList.drop k):=by
 unfold Chr.escd
 have e:(s.data.toList.drop k).getD 1 0=c:=by
  rw [List.getD_eq_getElem?_getD,List.getElem?_drop,← List.getD_eq_getElem?_getD,getD_at h,hc]
 rw [e]
 cases Chr.plain c <;> rfl
theorem unit_none6 (s:ByteArray) (k:Nat) (w:World) (hs:s.size≤maxLen) (hk:k+6≤9223372036854775000) (hT:LowTabs w) (h:Chr.unitv (s.data.toList.drop (k+6))=none):
  Calls Tryz.prog 116 #[.string s,.int .i64 ((k:Int)+6)] w fun e w'=>e=.returned (.tuple #[.int .i32 0,.bool false])∧Fr w w':=by
 rw [show (k:Int)+6=((k+6:Nat):Int) by omega];exact unit_none s (k+6) w hs hk hT h
theorem unit_some6 (s:ByteArray) (k a:Nat) (w:World) (hs:s.size≤maxLen) (hk:k+6≤9223372036854775000) (hT:LowTabs w) (h:Chr.unitv (s.data.toList.drop (k+6))=some a):
  Calls Tryz.prog 116 #[.string s,.int .i64 ((k:Int)+6)] w fun e w'=>e=.returned (.tuple #[.int .i32 a,.bool true])∧Fr w w':=by
 rw [show (k:Int)+6=((k+6:Nat):Int) by omega];exact unit_some s (k+6) a w hs hk hT h

theorem escaped_is (s:ByteArray) (k:Nat) (o:Option (Nat × Nat)) (w:World) (hs:s.size≤9223372036854770000) (hk:k<s.size) (hT:LowTabs w) (h:Chr.escd (s.data.toList.drop k)=o):
  Calls Tryz.prog 103 #[.string s,.int .i64 k] w fun e w'=>e=.returned (escR o)∧Fr w w':=by
 have hsm:Hid (s.size≤maxLen):=by show _≤_;unfold maxLen;omega
 have HT:=Lib.hid hT
 clear hT
 by_cases h2:s.size - k<2
 ·rw [escd_short h2] at h
  subst h
  have d1:decide ((s.size:Int) - (k:Int)<2)=true:=decide_eq_true (by omega)
  go_enter Tryz.func103,Tryz.ntmps103
  go_wp2_with fail
  go_ret2
  exact ⟨rfl,Fr.refl _⟩
 have d1:decide ((s.size:Int) - (k:Int)<2)=false:=decide_eq_false (by omega)
 have hk1:k+1<s.size:=by omega
 obtain ⟨c,hc⟩:∃ c,s[k+1]=c:=⟨_,rfl⟩
 rw [escd_at hk1 hc] at h
 rcases hp:Chr.plain c with _ | p
 ·rw [hp] at h
  simp only at h
  have HP:=Lib.hid hp
  clear hp
  unfold Chr.escu at h
  rcases ha:Chr.unitv (s.data.toList.drop k) with _ | a
  ·rw [ha] at h
   simp only at h
   subst h
   have HA:=Lib.hid ha
   clear ha
   go_enter Tryz.func103,Tryz.ntmps103
   go_wp2_with (first
    | (go_at_call 115;refine (plain_at c none _ HP.out).mono ?_;rintro e w' ⟨rfl,rfl⟩)
    | (go_at_call 116;refine (unit_none s k _ hsm.out (by omega) HT.out HA.out).mono ?_;rintro e w1 ⟨rfl,hf1⟩))
   go_ret2
   exact ⟨rfl,hf1⟩
  ·rw [ha] at h
   simp only at h
   have ha6:=Chr.unitv_lt ha
   have HA:=Lib.hid ha
   clear ha
   by_cases hlo:a<55296
   ·rw [if_pos (.inl hlo)] at h
    subst h
    have e1:decide ((a:Int)<55296)=true:=decide_eq_true (by omega)
    have HPt:=Lib.hid (Utf.isPt_iff.2 (⟨by omega,.inl hlo⟩:a≤1114111∧(a<55296∨57343<a)))
    go_enter Tryz.func103,Tryz.ntmps103
    go_wp2_with (first
     | (go_at_call 115;refine (plain_at c none _ HP.out).mono ?_;rintro e w' ⟨rfl,rfl⟩)
     | (go_at_call 116;refine (unit_some s k a _ hsm.out (by omega) HT.out HA.out).mono ?_;rintro e w1 ⟨rfl,hf1⟩;have HF1:=Lib.hid hf1;clear hf1)
     | (go_at_call 117;refine (put_pt a _ HPt.out).mono ?_;rintro e w2 ⟨rfl,hf2⟩;have HF2:=Lib.hid hf2;clear hf2))
    go_ret2
    exact ⟨rfl,HF1.out.trans HF2.out⟩
   ·have e1:decide ((a:Int)<55296)=false:=decide_eq_false (by omega)
    by_cases hhi:57343<a
    ·rw [if_pos (.inr hhi)] at h
     subst h
     have e2:decide ((57343:Int)<(a:Int))=true:=decide_eq_true (by omega)
     have HPt:=Lib.hid (Utf.isPt_iff.2 (⟨by omega,.inr hhi⟩:a≤1114111∧(a<55296∨57343<a)))
     go_enter Tryz.func103,Tryz.ntmps103
     go_wp2_with (first
      | (go_at_call 115;refine (plain_at c none _ HP.out).mono ?_;rintro e w' ⟨rfl,rfl⟩)
      | (go_at_call 116;refine (unit_some s k a _ hsm.out (by omega) HT.out HA.out).mono ?_;rintro e w1 ⟨rfl,hf1⟩;have HF1:=Lib.hid hf1;clear hf1)
      | (go_at_call 117;refine (put_pt a _ HPt.out).mono ?_;rintro e w2 ⟨rfl,hf2⟩;have HF2:=Lib.hid hf2;clear hf2))
     go_ret2
     exact ⟨rfl,HF1.out.trans HF2.out⟩
    ·rw [if_neg (by omega)] at h
     have e2:decide ((57343:Int)<(a:Int))=false:=decide_eq_false (by omega)
     rw [List.drop_drop] at h
     rcases hb:Chr.unitv (s.data.toList.drop (k+6)) with _ | b
     ·rw [hb] at h
      simp only at h
      subst h
      have HB:=Lib.hid hb
      clear hb
      go_enter Tryz.func103,Tryz.ntmps103
      go_wp2_with (first
       | (go_at_call 115;refine (plain_at c none _ HP.out).mono ?_;rintro e w' ⟨rfl,rfl⟩)
       | (go_at_call 116;have HM:=HF1.out;refine (unit_none6 s k _ hsm.out (by omega) (HT.out.keep HM) HB.out).mono ?_;rintro e w2 ⟨rfl,hf2⟩;have HF2:=Lib.hid hf2;clear hf2)
       | (go_at_call 116;refine (unit_some s k a _ hsm.out (by omega) HT.out HA.out).mono ?_;rintro e w1 ⟨rfl,hf1⟩;have HF1:=Lib.hid hf1;clear hf1))
      go_ret2
      exact ⟨rfl,HF1.out.trans HF2.out⟩
     ·rw [hb] at h
      simp only at h
      have hb6:=Chr.unitv_lt hb
      have HB:=Lib.hid hb
      clear hb
      by_cases hpair:a≤56319∧56320≤b∧b≤57343
      ·rw [if_pos hpair] at h
       subst h
       obtain ⟨p1,p2,p3⟩:=hpair
       have f1:decide ((56319:Int)<(a:Int))=false:=decide_eq_false (by omega)
       have f2:decide ((b:Int)<56320)=false:=decide_eq_false (by omega)
       have f3:decide ((57343:Int)<(b:Int))=false:=decide_eq_false (by omega)
       obtain ⟨q,hq⟩:∃ q,65536+(a - 55296)*1024+(b - 56320)=q:=⟨_,rfl⟩
       have hqz:(65536:Int)+((a:Int) - 55296)*1024+((b:Int) - 56320)=(q:Int):=by omega
       have HPt:=Lib.hid (Utf.isPt_iff.2 (⟨by omega,.inr (by omega)⟩:q≤1114111∧(q<55296∨57343<q)))
       rw [hq]
       clear hq
       go_enter Tryz.func103,Tryz.ntmps103
       go_wp2_with (first
        | (go_at_call 115;refine (plain_at c none _ HP.out).mono ?_;rintro e w' ⟨rfl,rfl⟩)
        | (go_at_call 116;have HM:=HF1.out;refine (unit_some6 s k b _ hsm.out (by omega) (HT.out.keep HM) HB.out).mono ?_;rintro e w2 ⟨rfl,hf2⟩;have HF2:=Lib.hid hf2;clear hf2)
        | (go_at_call 116;refine (unit_some s k a _ hsm.out (by omega) HT.out HA.out).mono ?_;rintro e w1 ⟨rfl,hf1⟩;have HF1:=Lib.hid hf1;clear hf1)
        | (go_at_call 117;refine (put_pt q _ HPt.out).mono ?_;rintro e w3 ⟨rfl,hf3⟩;have HF3:=Lib.hid hf3;clear hf3))
       go_ret2
       exact ⟨rfl,(HF1.out.trans HF2.out).trans HF3.out⟩
      ·rw [if_neg hpair] at h
       subst h
       have hcs:56319<a∨(a≤56319∧b<56320)∨(a≤56319∧56320≤b∧57343<b):=by omega
       clear hpair
       rcases hcs with g1 | ⟨g1,g2⟩ | ⟨g1,g2,g3⟩
       ·have f1:decide ((56319:Int)<(a:Int))=true:=decide_eq_true (by omega)
        go_enter Tryz.func103,Tryz.ntmps103
        go_wp2_with (first
         | (go_at_call 115;refine (plain_at c none _ HP.out).mono ?_;rintro e w' ⟨rfl,rfl⟩)
         | (go_at_call 116;have HM:=HF1.out;refine (unit_some6 s k b _ hsm.out (by omega) (HT.out.keep HM) HB.out).mono ?_;rintro e w2 ⟨rfl,hf2⟩;have HF2:=Lib.hid hf2;clear hf2)
         | (go_at_call 116;refine (unit_some s k a _ hsm.out (by omega) HT.out HA.out).mono ?_;rintro e w1 ⟨rfl,hf1⟩;have HF1:=Lib.hid hf1;clear hf1))
        go_ret2
        exact ⟨rfl,HF1.out.trans HF2.out⟩
       ·have f1:decide ((56319:Int)<(a:Int))=false:=decide_eq_false (by omega)
        have f2:decide ((b:Int)<56320)=true:=decide_eq_true (by omega)
        go_enter Tryz.func103,Tryz.ntmps103
        go_wp2_with (first
         | (go_at_call 115;refine (plain_at c none _ HP.out).mono ?_;rintro e w' ⟨rfl,rfl⟩)
         | (go_at_call 116;have HM:=HF1.out;refine (unit_some6 s k b _ hsm.out (by omega) (HT.out.keep HM) HB.out).mono ?_;rintro e w2 ⟨rfl,hf2⟩;have HF2:=Lib.hid hf2;clear hf2)
         | (go_at_call 116;refine (unit_some s k a _ hsm.out (by omega) HT.out HA.out).mono ?_;rintro e w1 ⟨rfl,hf1⟩;have HF1:=Lib.hid hf1;clear hf1))
        go_ret2
        exact ⟨rfl,HF1.out.trans HF2.out⟩
       ·have f1:decide ((56319:Int)<(a:Int))=false:=decide_eq_false (by omega)
        have f2:decide ((b:Int)<56320)=false:=decide_eq_false (by omega)
        have f3:decide ((57343:Int)<(b:Int))=true:=decide_eq_true (by omega)
        go_enter Tryz.func103,Tryz.ntmps103
        go_wp2_with (first
         | (go_at_call 115;refine (plain_at c none _ HP.out).mono ?_;rintro e w' ⟨rfl,rfl⟩)
         | (go_at_call 116;have HM:=HF1.out;refine (unit_some6 s k b _ hsm.out (by omega) (HT.out.keep HM) HB.out).mono ?_;rintro e w2 ⟨rfl,hf2⟩;have HF2:=Lib.hid hf2;clear hf2)
         | (go_at_call 116;refine (unit_some s k a _ hsm.out (by omega) HT.out HA.out).mono ?_;rintro e w1 ⟨rfl,hf1⟩;have HF1:=Lib.hid hf1;clear hf1))
        go_ret2
        exact ⟨rfl,HF1.out.trans HF2.out⟩
 ·rw [hp] at h
  simp only at h
  subst h
  have hlt:=Chr.plain_lt hp
  have hB:Hid (Utf.bytes p.toNat=[p]):=by show _=_;unfold Utf.bytes;rw [if_pos hlt,byte_ofNat]
  have HP:=Lib.hid hp
  clear hp hlt
  go_enter Tryz.func103,Tryz.ntmps103
  go_wp2_with (go_at_call 115;refine (plain_at c (some p) _ HP.out).mono ?_;rintro e w' ⟨rfl,rfl⟩)
  go_ret2
  refine ⟨?_,by repeat' (first | exact Fr.refl _ | refine Fr.alloc ?_ _ | refine Fr.drew ?_)⟩
  simp only [escR,Option.elim_some]
  rw [hB.out]
  simp

/- The walk of chars.Read. -/

theorem escaped_none (s:ByteArray) (k:Nat) (w:World) (hs:s.size≤9223372036854770000) (hk:k<s.size) (hT:LowTabs w) (h:Chr.escd (s.data.toList.drop k)=none):
  Calls Tryz.prog 103 #[.string s,.int .i64 k] w fun e w'=>e=.returned (.tuple #[.string ⟨#[]⟩,.int .i64 0])∧Fr w w':=escaped_is s k none w hs hk hT h
theorem escaped_some (s:ByteArray) (k p n:Nat) (w:World) (hs:s.size≤9223372036854770000) (hk:k<s.size) (hT:LowTabs w) (h:Chr.escd (s.data.toList.drop k)=some (p,n)):
  Calls Tryz.prog 103 #[.string s,.int .i64 k] w fun e w'=>e=.returned (.tuple #[.string ⟨(Utf.bytes p).toArray⟩,.int .i64 n])∧Fr w w':=escaped_is s k (some (p,n)) w hs hk hT h

theorem cread_out (s:ByteArray) (a:Int) (w:World) (hs:s.size≤maxLen) (h1:-9223372036854775808≤a) (h2:a≤9223372036854775807) (h:a<0∨(s.size:Int)≤a):
  Calls Tryz.prog 88 #[.string s,.int .i64 a] w fun e w'=>e=.returned (readV (Chr.read s.data.toList a))∧w=w':=by
 have hr:=Lib.hid (Chr.read_out (l:=s.data.toList) (a:=a) (by
  rcases h with h | h
  ·exact .inl h
  ·exact .inr (.inl (by simpa using h))))
 unfold maxLen at hs
 by_cases hn:a<0
 ·have d1:decide (a<0)=true:=decide_eq_true hn
  go_enter Tryz.func88,Tryz.ntmps88
  go_wp2_with fail
  go_ret3
  exact ⟨by rw [hr.out];rfl,rfl⟩
 ·have hn2:(s.size:Int)≤a:=by omega
  have d1:decide (a<0)=false:=decide_eq_false hn
  have d2:decide ((s.size:Int)≤a)=true:=decide_eq_true hn2
  clear h
  go_enter Tryz.func88,Tryz.ntmps88
  go_wp2_with fail
  go_ret3
  exact ⟨by rw [hr.out];rfl,rfl⟩

theorem cread_not (s:ByteArray) (k:Nat) (w:World) (hs:s.size≤maxLen) (hk:k<s.size) (hc:s[k]≠34):
  Calls Tryz.prog 88 #[.string s,.int .i64 k] w fun e w'=>e=.returned (readV (Chr.read s.data.toList k))∧w=w':=by
 have hr:=Lib.hid (Chr.read_out (l:=s.data.toList) (a:=(k:Int)) (.inr (.inr (by rw [Int.toNat_natCast,getD_at hk];exact hc))))
 unfold maxLen at hs
 obtain ⟨c,hcc⟩:∃ c,s[k]=c:=⟨_,rfl⟩
 rw [hcc] at hc
 have d1:decide ((k:Int)<0)=false:=decide_eq_false (by omega)
 have d2:decide ((s.size:Int)≤(k:Int))=false:=decide_eq_false (by omega)
 have e1:((c.toNat:Int) != 34)=true:=u8bne (d:=34) (by omega) hc
 clear hc
 go_enter Tryz.func88,Tryz.ntmps88
 go_wp2_with fail
 go_ret3
 exact ⟨by rw [hr.out];rfl,rfl⟩

theorem cread_in (s:ByteArray) (k:Nat) (w:World) (hs:s.size≤140737488355328) (hk:k<s.size) (hc:s[k]=34) (hT:LowTabs w):
  Calls Tryz.prog 88 #[.string s,.int .i64 k] w fun e w'=>e=.returned (readV (Chr.read s.data.toList k))∧Fr w w':=by
 have hsm:Hid (s.size≤maxLen):=by show _≤_;unfold maxLen;omega
 have hsn:Hid (s.size≤9223372036854770000):=by show _≤_;omega
 have h34:Hid (s.data.toList.getD k 0=34):=by show _=_;rw [getD_at hk,hc]
 have HT:=Lib.hid hT
 clear hT
 have d1:decide ((k:Int)<0)=false:=decide_eq_false (by omega)
 have d2:decide ((s.size:Int)≤(k:Int))=false:=decide_eq_false (by omega)
 have d2n:decide (s.size≤k)=false:=decide_eq_false (by omega)
 go_enter Tryz.func88,Tryz.ntmps88
 go_wp2_with fail
 go_loopw [7,8] (fun v j wr=>∃ (i:Nat) (ps:List Nat),j=.int .i64 i∧Hid (RdInv s k i ps)∧Hid (Bs wr w.heap.size v (ps.flatMap Utf.bytes))∧Hid (Fr w wr)) (fun _ j _=>s.size - (intOf j).toNat)
 case atStart=>exact ⟨k+1,[],by go_num,Lib.hid (RdInv.start hk),Lib.hid (Bs.none_ _ _),Lib.hid (Fr.refl _)⟩
 case round=>
  obtain ⟨i,ps,rfl,hi,hbs,hfr⟩:=hrel
  have hlo:=hi.out.lo
  have hhi:=hi.out.hi
  by_cases hlt:i<s.size
  ·obtain ⟨c,hcc⟩:∃ c,s[i]=c:=⟨_,rfl⟩
   have hc256:=c.toNat_lt
   by_cases q34:c=34
   ·subst q34
    have hr:=Lib.hid (hi.out.fin hk h34.out (tok_fin_at hlt hcc))
    have hcv:=hbs.out.conv
    clear hi
    go_wp2_with fail
    go_ret3
    exact ⟨by rw [hr.out];rfl,hfr.out⟩
   have e34:((c.toNat:Int) == 34)=false:=u8neq (d:=34) (by omega) q34
   by_cases q32:c.toNat<32
   ·have hr:=Lib.hid (hi.out.bad hk h34.out (tok_low_at hlt hcc q34 q32))
    have d32:decide ((c.toNat:Int)<32)=true:=decide_eq_true (by omega)
    clear hi q34
    go_wp2_with fail
    go_ret3
    exact ⟨by rw [hr.out];rfl,hfr.out⟩
   have d32:decide ((c.toNat:Int)<32)=false:=decide_eq_false (by omega)
   by_cases q92:c=92
   ·subst q92
    rcases ho:Chr.escd (s.data.toList.drop i) with _ | ⟨p,n⟩
    ·have hr:=Lib.hid (hi.out.bad hk h34.out (tok_esc_none hlt hcc ho))
     have HO:=Lib.hid ho
     clear hi ho q34 q32
     go_wp2_with (go_at_call 103;refine (escaped_none s i _ hsn.out hlt (HT.out.keep hfr.out) HO.out).mono ?_;rintro e w1 ⟨rfl,hf1⟩;have HF1:=Lib.hid hf1;clear hf1)
     go_ret3
     exact ⟨by rw [hr.out];rfl,hfr.out.trans HF1.out⟩
    ·have ht:=tok_esc_some hlt hcc ho
     have hnx:=Lib.hid (hi.out.step ht)
     have hroom:=Lib.hid (hi.out.room ht)
     have hpc:=Chr.tok_pc ht
     have hn0:1≤n:=hpc.2.1
     have hin:=(hi.out.step ht).hi
     have HO:=Lib.hid ho
     have e0:((n:Int) == 0)=false:=by rw [beq_eq_false_iff_ne];omega
     clear hi ho ht hpc q34 q32
     go_wp2_with (first
      | (go_at_call 103;refine (escaped_some s i p n _ hsn.out hlt (HT.out.keep hfr.out) HO.out).mono ?_;rintro e w1 ⟨rfl,hf1⟩;have HF1:=Lib.hid hf1;clear hf1)
      | (at_builtin;refine wpl_bs_str rfl (.tmp 81) (.tmp 82) rfl w (hfr.out.trans HF1.out) _ _ rfl (hbs.out.keep HF1.out) ⟨(Utf.bytes p).toArray⟩ rfl (Nat.le_trans hroom.out hs) ?_;intro v' w2 hps2 hfr2;have HP2:=Lib.hid hps2;have HF2:=Lib.hid hfr2;clear hps2 hfr2))
     exact ⟨⟨i+n,ps++[p],by go_num,hnx,by show Bs _ _ _ _;rw [flat_snoc];exact HP2.out,HF2⟩,by simp [intOf];omega⟩
   have e92:((c.toNat:Int) == 92)=false:=u8neq (d:=92) (by omega) q92
   obtain ⟨p,n,ho,hle,hpp⟩:=one_at hlt
   by_cases hn:n=0
   ·subst hn
    have hr:=Lib.hid (hi.out.bad hk h34.out (tok_one_none hlt hcc q34 q32 q92 ho))
    have HO:=Lib.hid ho
    clear hi ho q34 q32 q92
    go_wp2_with (go_at_call 99;refine (one_is s i p 0 _ hsm.out hlt HO.out).mono ?_;rintro e w1 ⟨rfl,rfl⟩)
    go_ret3
    exact ⟨by rw [hr.out];rfl,hfr.out⟩
   ·have ht:=tok_one_some hlt hcc q34 q32 q92 ho hn
    have hnx:=Lib.hid (hi.out.step ht)
    have hroom:=Lib.hid (hi.out.room ht)
    have hb:=one_bytes_at ho hn
    have hx:Hid ((s.extract i (i+n)).data.toList=Utf.bytes p):=by show _=_;rw [extract_list,show i+n - i=n by omega,hb.1]
    have hroom2:Hid ((ps.flatMap Utf.bytes).length+(s.extract i (i+n)).size≤140737488355328):=by
     show _≤_
     have h1:(s.extract i (i+n)).size=(Utf.bytes p).length:=by rw [← hx.out,Array.length_toList];rfl
     have h2:=hroom.out
     omega
    have HO:=Lib.hid ho
    have e0:((n:Int) == 0)=false:=by rw [beq_eq_false_iff_ne];omega
    clear hi ho ht hb q34 q32 q92
    go_wp2_with (first
     | (go_at_call 99;refine (one_is s i p n _ hsm.out hlt HO.out).mono ?_;rintro e w1 ⟨rfl,rfl⟩)
     | (at_builtin;refine wpl_bs_str rfl (.tmp 47) (.tmp 53) rfl w hfr.out _ _ rfl hbs.out (s.extract i (i+n)) rfl hroom2.out ?_;intro v' w2 hps2 hfr2;have HP2:=Lib.hid hps2;have HF2:=Lib.hid hfr2;clear hps2 hfr2))
    exact ⟨⟨i+n,ps++[p],by go_num,hnx,by show Bs _ _ _ _;rw [flat_snoc,← hx.out];exact HP2.out,HF2⟩,by simp [intOf];omega⟩
  ·have hr:=Lib.hid (hi.out.bad hk h34.out (tok_end hlt))
   obtain rfl:i=s.size:=by omega
   clear hi
   go_wp2_with fail
   go_ret3
   exact ⟨by rw [hr.out];rfl,hfr.out⟩

theorem cread_is (s:ByteArray) (a:Int) (w:World) (hs:s.size≤140737488355328) (h1:-9223372036854775808≤a) (h2:a≤9223372036854775807) (hT:LowTabs w):
  Calls Tryz.prog 88 #[.string s,.int .i64 a] w fun e w'=>e=.returned (readV (Chr.read s.data.toList a))∧Fr w w':=by
 have hsm:s.size≤maxLen:=by unfold maxLen;omega
 by_cases ho:a<0∨(s.size:Int)≤a
 ·refine (cread_out s a w hsm h1 h2 ho).mono ?_
  rintro e w' ⟨rfl,rfl⟩
  exact ⟨rfl,Fr.refl _⟩
 ·obtain ⟨k,rfl⟩:∃ k:Nat,a=k:=⟨a.toNat,by omega⟩
  have hk:k<s.size:=by omega
  by_cases hc:s[k]=34
  ·exact cread_in s k w hs hk hc hT
  ·refine (cread_not s k w hsm hk hc).mono ?_
   rintro e w' ⟨rfl,rfl⟩
   exact ⟨rfl,Fr.refl _⟩

end Go.Proofs.YtdhakbghdcfncaaGreatDoor
