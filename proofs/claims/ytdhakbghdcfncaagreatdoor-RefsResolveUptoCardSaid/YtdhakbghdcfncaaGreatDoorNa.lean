/- Walks of the small functions of nums: is, span, value. -/
import Derived.Test.YtdhakbghdcfncaaGreatDoorRows
import Derived.Test.YtdhakbghdcfncaaGreatDoorPa
import Derived.Test.YtdhakbghdcfncaaGreatDoorKa
namespace Go.Proofs.YtdhakbghdcfncaaGreatDoor
set_option maxRecDepth 100000
set_option maxHeartbeats 2000000
set_option linter.unusedVariables false
set_option linter.unusedSimpArgs false
open Go.RowKit

theorem span_any (s:ByteArray) (i:Nat) (w:World) (hs:s.size≤maxLen) (hi:i≤s.size):
  Calls Tryz.prog 104 #[.string s,.int .i64 i] w fun e w'=>e=.returned (.int .i64 ((i+Nm.digLen (s.data.toList.drop i):Nat):Int))∧w=w':=by
 unfold maxLen at hs
 go_enter Tryz.func104,Tryz.ntmps104
 go_wp2
 go_loop [1] (fun v=>∃ k:Nat,k≤s.size∧v=.int .i64 k∧i+Nm.digLen (s.data.toList.drop i)=k+Nm.digLen (s.data.toList.drop k)) (fun v=>s.size - (intOf v).toNat)
 case atStart=>exact ⟨i,hi,rfl,rfl⟩
 case round=>
  obtain ⟨k,hk,rfl,he⟩:=hrel
  have He:=Lib.hid he
  clear he
  by_cases hlt:k<s.size
  ·have hd:=Nm.drop_cons s.data.toList k hlt
   have Hd:Hid (s.data.toList.drop k=s[k]::s.data.toList.drop (k+1)):=hd
   clear hd
   have Hp:48≤s[k].toNat→s[k].toNat≤57→Nm.digLen (s.data.toList.drop k)=Nm.digLen (s.data.toList.drop (k+1))+1:=fun a b=>by rw [Hd.out,Nm.digLen,if_pos (Nm.isDig_pos a b)]
   have Hn:(s[k].toNat<48∨57<s[k].toNat)→Nm.digLen (s.data.toList.drop k)=0:=fun a=>by
    rw [Hd.out,Nm.digLen,if_neg (by rw [Nm.isDig_iff];omega)]
   have HP:=Lib.hid Hp
   have HN:=Lib.hid Hn
   clear Hp Hn
   go_wp2
   ·have h1:48≤(s[k].toNat:Int):=by assumption
    have h2:(s[k].toNat:Int)≤57:=by assumption
    have h3:=HP.out (by omega) (by omega)
    have h4:=He.out
    exact ⟨⟨k+1,by omega,by go_num,by omega⟩,by simp [intOf];omega⟩
   ·have h2:57<(s[k].toNat:Int):=by assumption
    have h3:=HN.out (by omega)
    have h4:=He.out
    go_ret
    exact ⟨ret_int (by omega),rfl⟩
   ·have h2:(s[k].toNat:Int)<48:=by assumption
    have h3:=HN.out (by omega)
    have h4:=He.out
    go_ret
    exact ⟨ret_int (by omega),rfl⟩
  ·go_wp2
   go_ret
   have hkk:k=s.size:=by omega
   have h3:Nm.digLen (s.data.toList.drop k)=0:=by rw [List.drop_of_length_le (by simp;omega)];rfl
   have h4:=He.out
   exact ⟨ret_int (by omega),rfl⟩

theorem value_any (s:ByteArray) (w:World) (hs:s.size≤maxLen) (hd:∀ k (h:k<s.size),48≤s[k].toNat∧s[k].toNat≤57):
  Calls Tryz.prog 105 #[.string s] w fun e w'=>e=.returned (.tuple #[.int .i64 ((Nm.valFrom 0 s.data.toList).getD 0:Nat),.bool (Nm.valFrom 0 s.data.toList).isSome])∧w=w':=by
 unfold maxLen at hs
 have HD:=Lib.hid hd
 clear hd
 go_enter Tryz.func105,Tryz.ntmps105
 go_wp2
 go_loop [4,8] (fun v i=>∃ k n:Nat,k≤s.size∧n≤9007199254740991∧i=.int .i64 k∧v=.int .i64 n∧Nm.valFrom 0 s.data.toList=Nm.valFrom n (s.data.toList.drop k)) (fun _ i=>s.size - (intOf i).toNat)
 case atStart=>exact ⟨0,0,by omega,by omega,rfl,rfl,rfl⟩
 case round=>
  obtain ⟨k,n,hk,hn,rfl,rfl,he⟩:=hrel
  have He:=Lib.hid he
  clear he
  by_cases hlt:k<s.size
  ·have Hd:Hid (s.data.toList.drop k=s[k]::s.data.toList.drop (k+1)):=Nm.drop_cons s.data.toList k hlt
   obtain ⟨h1,h2⟩:=HD.out k hlt
   have Hc:Hid (Nm.valFrom n (s.data.toList.drop k)=if n*10+(s[k].toNat - 48) > 9007199254740991 then none else Nm.valFrom (n*10+(s[k].toNat - 48)) (s.data.toList.drop (k+1))):=by
    show _=_
    rw [Hd.out,Nm.valFrom]
   go_wp2
   ·have h3:9007199254740991<(n:Int)*10+(s[k].toNat - 48):=by assumption
    have h4:Nm.valFrom 0 s.data.toList=none:=by rw [He.out,Hc.out,if_pos (by omega)]
    go_ret2
    exact ⟨by rw [h4];rfl,rfl⟩
   ·have h3:(n:Int)*10+(s[k].toNat - 48)≤9007199254740991:=by assumption
    have h4:Nm.valFrom 0 s.data.toList=Nm.valFrom (n*10+(s[k].toNat - 48)) (s.data.toList.drop (k+1)):=by rw [He.out,Hc.out,if_neg (by omega)]
    refine ⟨⟨k+1,n*10+(s[k].toNat - 48),by omega,by omega,by go_num,?_,h4⟩,by simp [intOf];omega⟩
    congr 1;omega
  ·go_wp2
   go_ret2
   have h4:Nm.valFrom 0 s.data.toList=some n:=by rw [He.out,List.drop_of_length_le (by simp;omega)];rfl
   exact ⟨by rw [h4];rfl,rfl⟩

/- The walk of nums.Read. -/

theorem span_is (s:ByteArray) (i E:Nat) (w:World) (hs:s.size≤maxLen) (hi:i≤s.size) (hE:i+Nm.digLen (s.data.toList.drop i)=E):
  Calls Tryz.prog 104 #[.string s,.int .i64 i] w fun e w'=>e=.returned (.int .i64 E)∧w=w':=by
 subst hE;exact span_any s i w hs hi

theorem or32 (c:UInt8):(bits BinOp.or IntKind.u8 (c.toNat:Int) 32 == 101)=(c == 101 || c == 69):=by
 have h:∀ n:Fin 256,(bits BinOp.or IntKind.u8 ((UInt8.ofNat n).toNat:Int) 32 == 101)=(UInt8.ofNat n == 101 || UInt8.ofNat n == 69):=by decide +kernel
 have h1:=h ⟨c.toNat,c.toNat_lt⟩
 simpa using h1

def numV (x:Int × Int × Int):Value:=.tuple #[.int .i64 x.1,.int .i64 x.2.1,.int .i64 x.2.2]

theorem read_out (s:ByteArray) (a:Int) (w:World) (hs:s.size≤maxLen) (h1:-9223372036854775808≤a) (h2:a≤9223372036854775807) (h:a<0∨(s.size:Int)≤a):
  Calls Tryz.prog 90 #[.string s,.int .i64 a] w fun e w'=>e=.returned (numV (Nm.readNum s.data.toList a))∧w=w':=by
 have hr:=Lib.hid (Nm.readNum_out (l:=s.data.toList) (a:=a) (by simpa using h))
 unfold maxLen at hs
 by_cases hn:a<0
 ·clear h
  go_enter Tryz.func90,Tryz.ntmps90
  go_wp2
  go_ret3
  exact ⟨by rw [hr.out];rfl,rfl⟩
 ·have hn2:(s.size:Int)≤a:=by omega
  clear h
  go_enter Tryz.func90,Tryz.ntmps90
  go_wp2
  go_ret3
  exact ⟨by rw [hr.out];rfl,rfl⟩

theorem value_none (s:ByteArray) (w:World) (hs:s.size≤maxLen) (hd:∀ c∈s.data.toList,Nm.isDig c=true) (hv:Nm.valFrom 0 s.data.toList=none):
  Calls Tryz.prog 105 #[.string s] w fun e w'=>e=.returned (.tuple #[.int .i64 0,.bool false])∧w=w':=by
 have h:=value_any s w hs (fun k hk=>Nm.isDig_iff.1 (hd _ (by simp [ByteArray.getElem_eq_getElem_data])))
 rw [hv] at h
 exact h
theorem value_some (s:ByteArray) (n:Nat) (w:World) (hs:s.size≤maxLen) (hd:∀ c∈s.data.toList,Nm.isDig c=true) (hv:Nm.valFrom 0 s.data.toList=some n):
  Calls Tryz.prog 105 #[.string s] w fun e w'=>e=.returned (.tuple #[.int .i64 n,.bool true])∧w=w':=by
 have h:=value_any s w hs (fun k hk=>Nm.isDig_iff.1 (hd _ (by simp [ByteArray.getElem_eq_getElem_data])))
 rw [hv] at h
 exact h
theorem valFrom_le:∀ (l:List UInt8) (n m:Nat),n≤9007199254740991→Nm.valFrom n l=some m→m≤9007199254740991
 | [],n,m,h,e=>by simp [Nm.valFrom] at e;omega
 | c::l,n,m,h,e=>by
  unfold Nm.valFrom at e
  split at e
  ·simp at e
  ·exact valFrom_le l _ m (by omega) e
theorem getD_of {s:ByteArray} {k:Nat} (h:k<s.size) {c:UInt8} (hc:s[k]=c):s.data.toList.getD k 0=c:=by
 have h2:k<s.data.toList.length:=by simpa using h
 rw [List.getD_eq_getElem?_getD,List.getElem?_eq_getElem h2,← hc]
 rfl
theorem u8ne {c d:UInt8} (h:c≠d):((c.toNat:Int) == (d.toNat:Int))=false:=by
 rw [beq_eq_false_iff_ne]
 intro e
 exact h (UInt8.toNat_inj.1 (by omega))

theorem read_neg (s:ByteArray) (k:Nat) (w:World) (hs:s.size≤maxLen) (hk:k<s.size) (h45:s[k]=45):
  Calls Tryz.prog 90 #[.string s,.int .i64 k] w fun e w'=>e=.returned (numV (Nm.readNum s.data.toList k))∧w=w':=by
 have hsm:=Lib.hid hs
 unfold maxLen at hs
 have hkl:k<s.data.toList.length:=by simpa using hk
 obtain ⟨c,hc⟩:∃ c,s[k]=c:=⟨_,rfl⟩
 have hcd:=Lib.hid (getD_of hk hc)
 obtain rfl:c=45:=hc.symm.trans h45
 clear h45
 obtain ⟨f,hf⟩:∃ f:Nat,k+1=f:=⟨_,rfl⟩
 have hfi:(k:Int)+1=(f:Int):=by omega
 have hff:=Lib.hid (show f=if s.data.toList.getD k 0=45 then k+1 else k by rw [hcd.out,if_pos rfl,hf])
 have hfk:k≤f:=by omega
 have hfs:f≤s.size:=by omega
 clear hf
 obtain ⟨E,hE⟩:∃ E,f+Nm.digLen (s.data.toList.drop f)=E:=⟨_,rfl⟩
 have hEs:E≤s.size:=by have:=Nm.digLen_le (s.data.toList.drop f);simp at this;omega
 have hfE:f≤E:=by omega
 have HE:=Lib.hid hE
 clear hE
 by_cases h1:E=f
 ·have hr:=Lib.hid (Nm.readNum_bad hkl hff.out HE.out (.inl h1))
  have hb1:((E:Int) == (f:Int))=true:=by rw [beq_iff_eq];omega
  clear h1
  go_enter Tryz.func90,Tryz.ntmps90
  go_wp2_with (go_at_call 104;refine (span_is s f E _ hsm.out hfs HE.out).mono ?_;rintro e w' ⟨rfl,rfl⟩)
  all_goals
   go_ret3
   exact ⟨by rw [hr.out];rfl,rfl⟩
 ·have hlt:f<E:=by omega
  have hb1:((E:Int) == (f:Int))=false:=by rw [beq_eq_false_iff_ne];omega
  obtain ⟨c1,hc1⟩:∃ c1,s[f]=c1:=⟨_,rfl⟩
  have hc1d:=Lib.hid (getD_of (by omega) hc1)
  by_cases h2:c1=48∧1<E - f
  ·obtain ⟨rfl,h2⟩:=h2
   have h2':(1:Int)<(E:Int) - (f:Int):=by omega
   have hr:=Lib.hid (Nm.readNum_bad hkl hff.out HE.out (.inr (.inl ⟨hc1d.out,h2⟩)))
   go_enter Tryz.func90,Tryz.ntmps90
   go_wp2_with (go_at_call 104;refine (span_is s f E _ hsm.out hfs HE.out).mono ?_;rintro e w' ⟨rfl,rfl⟩)
   all_goals
    go_ret3
    exact ⟨by rw [hr.out];rfl,rfl⟩
  ·have h2':c1=48→E - f≤1:=fun h=>Nat.le_of_not_lt fun x=>h2 ⟨h,x⟩
   have h4:((c1.toNat:Int) == 48)=false∨(((c1.toNat:Int) == 48)=true∧(E:Int) - (f:Int)≤1):=by
    by_cases h:c1=48
    ·right;refine ⟨by subst h;rfl,by have:=h2' h;omega⟩
    ·left;exact u8ne (d:=48) h
   clear h2'
   have H2:=Lib.hid h2
   clear h2
   by_cases h3:E<s.size
   ·obtain ⟨c2,hc2⟩:∃ c2,s[E]=c2:=⟨_,rfl⟩
    have hc2d:=Lib.hid (getD_of h3 hc2)
    have ho:=or32 c2
    by_cases h5:c2=46∨c2=101∨c2=69
    ·have hbad:Hid (Nm.readNum s.data.toList k=(0,(k:Int),30)):=Nm.readNum_bad hkl hff.out HE.out (.inr (.inr ⟨by simpa using h3,by rw [hc2d.out];exact h5⟩))
     have h6:((c2.toNat:Int) == 46)=true∨(((c2.toNat:Int) == 46)=false∧(bits BinOp.or IntKind.u8 (c2.toNat:Int) 32 == 101)=true):=by
      by_cases h:c2=46
      ·left;subst h;rfl
      ·right;refine ⟨u8ne (d:=46) h,?_⟩;rw [ho];rcases h5 with h5 | h5 | h5 <;> simp_all
     clear ho h5
     rcases h4 with h4 | ⟨h4,h4'⟩ <;> rcases h6 with h6 | ⟨h6,h6'⟩
     all_goals
      go_enter Tryz.func90,Tryz.ntmps90
      go_wp2_with (go_at_call 104;refine (span_is s f E _ hsm.out hfs HE.out).mono ?_;rintro e w' ⟨rfl,rfl⟩)
      go_ret3
      exact ⟨by rw [hbad.out];rfl,rfl⟩
    ·have h6:((c2.toNat:Int) == 46)=false:=u8ne (d:=46) (fun h=>h5 (.inl h))
     have h7:(bits BinOp.or IntKind.u8 (c2.toNat:Int) 32 == 101)=false:=by rw [ho];simp;exact ⟨fun h=>h5 (.inr (.inl h)),fun h=>h5 (.inr (.inr h))⟩
     have H5:=Lib.hid h5
     clear h5 ho
     have hg:=Nm.readNum_good hkl hff.out HE.out (fun h=>h.elim (fun h=>by omega) fun h=>h.elim (fun h=>H2.out ⟨hc1d.out.symm.trans h.1,h.2⟩) fun h=>H5.out (by have h:=h.2;rw [hc2d.out] at h;exact h))
     have hx:(s.extract f E).data.toList=(s.data.toList.drop f).take (E - f):=by simp [ByteArray.data_extract]
     have hxs:(s.extract f E).size≤maxLen:=by unfold maxLen;simp;omega
     have hxd:∀ d∈(s.extract f E).data.toList,Nm.isDig d=true:=by
      rw [hx,show E - f=Nm.digLen (s.data.toList.drop f) by have:=HE.out;omega];exact Nm.digLen_take _
     rw [← hx,hcd.out] at hg
     clear hx
     rcases hv:Nm.valFrom 0 (s.extract f E).data.toList with _ | n
     ·rw [hv] at hg
      have HG:=Lib.hid hg
      have HV:=Lib.hid hv
      have HX:=Lib.hid hxs
      have HD:=Lib.hid hxd
      clear hg hv hxs hxd
      rcases h4 with h4 | ⟨h4,h4'⟩
      all_goals
       go_enter Tryz.func90,Tryz.ntmps90
       go_wp2_with (first | (go_at_call 104;refine (span_is s f E _ hsm.out hfs HE.out).mono ?_;rintro e w' ⟨rfl,rfl⟩) | (go_at_call 105;refine (value_none (s.extract f E) _ HX.out HD.out HV.out).mono ?_;rintro e w' ⟨rfl,rfl⟩))
       go_ret3
       exact ⟨by rw [HG.out];rfl,rfl⟩
     ·rw [hv] at hg
      have HG:=Lib.hid hg
      have HV:=Lib.hid hv
      have HX:=Lib.hid hxs
      have HD:=Lib.hid hxd
      have hn:n≤9007199254740991:=valFrom_le _ 0 n (by omega) hv
      clear hg hv hxs hxd
      rcases h4 with h4 | ⟨h4,h4'⟩
      all_goals
       go_enter Tryz.func90,Tryz.ntmps90
       go_wp2_with (first | (go_at_call 104;refine (span_is s f E _ hsm.out hfs HE.out).mono ?_;rintro e w' ⟨rfl,rfl⟩) | (go_at_call 105;refine (value_some (s.extract f E) n _ HX.out HD.out HV.out).mono ?_;rintro e w' ⟨rfl,rfl⟩))
       go_ret3
       exact ⟨by rw [HG.out];simp [numV],rfl⟩
   ·have h3':s.size≤E:=by omega
    clear h3
    have hg:=Nm.readNum_good hkl hff.out HE.out (fun h=>h.elim (fun h=>by omega) fun h=>h.elim (fun h=>H2.out ⟨hc1d.out.symm.trans h.1,h.2⟩) fun h=>by have h:=h.1;simp at h;omega)
    have hx:(s.extract f E).data.toList=(s.data.toList.drop f).take (E - f):=by simp [ByteArray.data_extract]
    have hxs:(s.extract f E).size≤maxLen:=by unfold maxLen;simp;omega
    have hxd:∀ d∈(s.extract f E).data.toList,Nm.isDig d=true:=by
     rw [hx,show E - f=Nm.digLen (s.data.toList.drop f) by have:=HE.out;omega];exact Nm.digLen_take _
    rw [← hx,hcd.out] at hg
    clear hx
    rcases hv:Nm.valFrom 0 (s.extract f E).data.toList with _ | n
    ·rw [hv] at hg
     have HG:=Lib.hid hg
     have HV:=Lib.hid hv
     have HX:=Lib.hid hxs
     have HD:=Lib.hid hxd
     clear hg hv hxs hxd
     rcases h4 with h4 | ⟨h4,h4'⟩
     all_goals
      go_enter Tryz.func90,Tryz.ntmps90
      go_wp2_with (first | (go_at_call 104;refine (span_is s f E _ hsm.out hfs HE.out).mono ?_;rintro e w' ⟨rfl,rfl⟩) | (go_at_call 105;refine (value_none (s.extract f E) _ HX.out HD.out HV.out).mono ?_;rintro e w' ⟨rfl,rfl⟩))
      go_ret3
      exact ⟨by rw [HG.out];rfl,rfl⟩
    ·rw [hv] at hg
     have HG:=Lib.hid hg
     have HV:=Lib.hid hv
     have HX:=Lib.hid hxs
     have HD:=Lib.hid hxd
     have hn:n≤9007199254740991:=valFrom_le _ 0 n (by omega) hv
     clear hg hv hxs hxd
     rcases h4 with h4 | ⟨h4,h4'⟩
     all_goals
      go_enter Tryz.func90,Tryz.ntmps90
      go_wp2_with (first | (go_at_call 104;refine (span_is s f E _ hsm.out hfs HE.out).mono ?_;rintro e w' ⟨rfl,rfl⟩) | (go_at_call 105;refine (value_some (s.extract f E) n _ HX.out HD.out HV.out).mono ?_;rintro e w' ⟨rfl,rfl⟩))
      go_ret3
      exact ⟨by rw [HG.out];simp [numV],rfl⟩

end Go.Proofs.YtdhakbghdcfncaaGreatDoor
