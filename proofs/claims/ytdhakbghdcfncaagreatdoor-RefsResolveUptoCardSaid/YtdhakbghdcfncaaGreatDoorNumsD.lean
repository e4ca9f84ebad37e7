/- The walk of nums.Read where no sign stands; and the whole. -/
import Derived.Test.YtdhakbghdcfncaaGreatDoorNa
namespace Go.Proofs.YtdhakbghdcfncaaGreatDoor
set_option maxRecDepth 100000
set_option maxHeartbeats 2000000
set_option linter.unusedVariables false
set_option linter.unusedSimpArgs false
open Go.RowKit

theorem read_pos (s:ByteArray) (k:Nat) (w:World) (hs:s.size≤maxLen) (hk:k<s.size) (h45:s[k]≠45):
  Calls Tryz.prog 90 #[.string s,.int .i64 k] w fun e w'=>e=.returned (numV (Nm.readNum s.data.toList k))∧w=w':=by
 have hsm:=Lib.hid hs
 unfold maxLen at hs
 have hkl:k<s.data.toList.length:=by simpa using hk
 obtain ⟨c,hc⟩:∃ c,s[k]=c:=⟨_,rfl⟩
 have hcd:=Lib.hid (getD_of hk hc)
 have hm:¬ c=45:=fun h=>h45 (hc.trans h)
 clear h45
 have hc45:((c.toNat:Int) == 45)=false:=u8ne (d:=45) hm
 have hff:=Lib.hid (show k=if s.data.toList.getD k 0=45 then k+1 else k by rw [hcd.out,if_neg hm])
 have hfs:k≤s.size:=by omega
 obtain ⟨E,hE⟩:∃ E,k+Nm.digLen (s.data.toList.drop k)=E:=⟨_,rfl⟩
 have hEs:E≤s.size:=by have:=Nm.digLen_le (s.data.toList.drop k);simp at this;omega
 have hfE:k≤E:=by omega
 have HE:=Lib.hid hE
 clear hE
 by_cases h1:E=k
 ·have hr:=Lib.hid (Nm.readNum_bad hkl hff.out HE.out (.inl h1))
  have hb1:((E:Int) == (k:Int))=true:=by rw [beq_iff_eq];omega
  clear h1
  go_enter Tryz.func90,Tryz.ntmps90
  go_wp2_with (go_at_call 104;refine (span_is s k E _ hsm.out hfs HE.out).mono ?_;rintro e w' ⟨rfl,rfl⟩)
  all_goals
   go_ret3
   exact ⟨by rw [hr.out];rfl,rfl⟩
 ·have hlt:k<E:=by omega
  have hb1:((E:Int) == (k:Int))=false:=by rw [beq_eq_false_iff_ne];omega
  by_cases h2:c=48∧1<E - k
  ·obtain ⟨h48,h2⟩:=h2
   have hc48:((c.toNat:Int) == 48)=true:=by rw [h48];rfl
   have H48:=Lib.hid h48
   clear h48 hm
   have hc45':=hc45
   clear hc45'
   have h2':(1:Int)<(E:Int) - (k:Int):=by omega
   have hr:=Lib.hid (Nm.readNum_bad hkl hff.out HE.out (.inr (.inl ⟨hcd.out.trans H48.out,h2⟩)))
   go_enter Tryz.func90,Tryz.ntmps90
   go_wp2_with (go_at_call 104;refine (span_is s k E _ hsm.out hfs HE.out).mono ?_;rintro e w' ⟨rfl,rfl⟩)
   all_goals
    go_ret3
    exact ⟨by rw [hr.out];rfl,rfl⟩
  ·have h2':c=48→E - k≤1:=fun h=>Nat.le_of_not_lt fun x=>h2 ⟨h,x⟩
   have h4:((c.toNat:Int) == 48)=false∨(((c.toNat:Int) == 48)=true∧(E:Int) - (k:Int)≤1):=by
    by_cases h:c=48
    ·right;refine ⟨by subst h;rfl,by have:=h2' h;omega⟩
    ·left;exact u8ne (d:=48) h
   clear h2'
   have H2:=Lib.hid h2
   clear h2
   by_cases h3:E<s.size
   ·obtain ⟨c2,hc2⟩:∃ c2,s[E]=c2:=⟨_,rfl⟩
    have hc2d:=Lib.hid (getD_of h3 hc2)
    have ho:=or32 c2
    by_cases h5:c2=46∨c2=101∨c2=69
    ·have hbad:Hid (Nm.readNum s.data.toList k=(0,(k:Int),30)):=Nm.readNum_bad hkl hff.out HE.out (.inr (.inr ⟨by simpa using h3,by rw [hc2d.out];exact h5⟩))
     have h6:((c2.toNat:Int) == 46)=true∨(((c2.toNat:Int) == 46)=false∧(bits BinOp.or IntKind.u8 (c2.toNat:Int) 32 == 101)=true):=by
      by_cases h:c2=46
      ·left;subst h;rfl
      ·right;refine ⟨u8ne (d:=46) h,?_⟩;rw [ho];rcases h5 with h5 | h5 | h5 <;> simp_all
     clear ho h5
     rcases h4 with h4 | ⟨h4,h4'⟩ <;> rcases h6 with h6 | ⟨h6,h6'⟩
     all_goals
      go_enter Tryz.func90,Tryz.ntmps90
      go_wp2_with (go_at_call 104;refine (span_is s k E _ hsm.out hfs HE.out).mono ?_;rintro e w' ⟨rfl,rfl⟩)
      go_ret3
      exact ⟨by rw [hbad.out];rfl,rfl⟩
    ·have h6:((c2.toNat:Int) == 46)=false:=u8ne (d:=46) (fun h=>h5 (.inl h))
     have h7:(bits BinOp.or IntKind.u8 (c2.toNat:Int) 32 == 101)=false:=by rw [ho];simp;exact ⟨fun h=>h5 (.inr (.inl h)),fun h=>h5 (.inr (.inr h))⟩
     have H5:=Lib.hid h5
     clear h5 ho
     have hg:=Nm.readNum_good hkl hff.out HE.out (fun h=>h.elim (fun h=>by omega) fun h=>h.elim (fun h=>H2.out ⟨hcd.out.symm.trans h.1,h.2⟩) fun h=>H5.out (by have h:=h.2;rw [hc2d.out] at h;exact h))
     have hx:(s.extract k E).data.toList=(s.data.toList.drop k).take (E - k):=by simp [ByteArray.data_extract]
     have hxs:(s.extract k E).size≤maxLen:=by unfold maxLen;simp;omega
     have hxd:∀ d∈(s.extract k E).data.toList,Nm.isDig d=true:=by
      rw [hx,show E - k=Nm.digLen (s.data.toList.drop k) by have:=HE.out;omega];exact Nm.digLen_take _
     rw [← hx,hcd.out] at hg
     clear hx
     rcases hv:Nm.valFrom 0 (s.extract k E).data.toList with _ | n
     ·rw [hv] at hg
      have HG:=Lib.hid hg
      have HV:=Lib.hid hv
      have HX:=Lib.hid hxs
      have HD:=Lib.hid hxd
      clear hg hv hxs hxd
      rcases h4 with h4 | ⟨h4,h4'⟩
      all_goals
       go_enter Tryz.func90,Tryz.ntmps90
       go_wp2_with (first | (go_at_call 104;refine (span_is s k E _ hsm.out hfs HE.out).mono ?_;rintro e w' ⟨rfl,rfl⟩) | (go_at_call 105;refine (value_none (s.extract k E) _ HX.out HD.out HV.out).mono ?_;rintro e w' ⟨rfl,rfl⟩))
       go_ret3
       exact ⟨by rw [HG.out];rfl,rfl⟩
     ·rw [hv] at hg
      have HG:=Lib.hid hg
      have HV:=Lib.hid hv
      have HX:=Lib.hid hxs
      have HD:=Lib.hid hxd
      have hn:n≤9007199254740991:=valFrom_le _ 0 n (by omega) hv
      clear hg hv hxs hxd
      rcases h4 with h4 | ⟨h4,h4'⟩
      all_goals
       go_enter Tryz.func90,Tryz.ntmps90
       go_wp2_with (first | (go_at_call 104;refine (span_is s k E _ hsm.out hfs HE.out).mono ?_;rintro e w' ⟨rfl,rfl⟩) | (go_at_call 105;refine (value_some (s.extract k E) n _ HX.out HD.out HV.out).mono ?_;rintro e w' ⟨rfl,rfl⟩))
       go_ret3
       exact ⟨by rw [HG.out];simp [numV,hm],rfl⟩
   ·have h3':s.size≤E:=by omega
    clear h3
    have hg:=Nm.readNum_good hkl hff.out HE.out (fun h=>h.elim (fun h=>by omega) fun h=>h.elim (fun h=>H2.out ⟨hcd.out.symm.trans h.1,h.2⟩) fun h=>by have h:=h.1;simp at h;omega)
    have hx:(s.extract k E).data.toList=(s.data.toList.drop k).take (E - k):=by simp [ByteArray.data_extract]
    have hxs:(s.extract k E).size≤maxLen:=by unfold maxLen;simp;omega
    have hxd:∀ d∈(s.extract k E).data.toList,Nm.isDig d=true:=by
     rw [hx,show E - k=Nm.digLen (s.data.toList.drop k) by have:=HE.out;omega];exact Nm.digLen_take _
    rw [← hx,hcd.out] at hg
    clear hx
    rcases hv:Nm.valFrom 0 (s.extract k E).data.toList with _ | n
    ·rw [hv] at hg
     have HG:=Lib.hid hg
     have HV:=Lib.hid hv
     have HX:=Lib.hid hxs
     have HD:=Lib.hid hxd
     clear hg hv hxs hxd
     rcases h4 with h4 | ⟨h4,h4'⟩
     all_goals
      go_enter Tryz.func90,Tryz.ntmps90
      go_wp2_with (first | (go_at_call 104;refine (span_is s k E _ hsm.out hfs HE.out).mono ?_;rintro e w' ⟨rfl,rfl⟩) | (go_at_call 105;refine (value_none (s.extract k E) _ HX.out HD.out HV.out).mono ?_;rintro e w' ⟨rfl,rfl⟩))
      go_ret3
      exact ⟨by rw [HG.out];rfl,rfl⟩
    ·rw [hv] at hg
     have HG:=Lib.hid hg
     have HV:=Lib.hid hv
     have HX:=Lib.hid hxs
     have HD:=Lib.hid hxd
     have hn:n≤9007199254740991:=valFrom_le _ 0 n (by omega) hv
     clear hg hv hxs hxd
     rcases h4 with h4 | ⟨h4,h4'⟩
     all_goals
      go_enter Tryz.func90,Tryz.ntmps90
      go_wp2_with (first | (go_at_call 104;refine (span_is s k E _ hsm.out hfs HE.out).mono ?_;rintro e w' ⟨rfl,rfl⟩) | (go_at_call 105;refine (value_some (s.extract k E) n _ HX.out HD.out HV.out).mono ?_;rintro e w' ⟨rfl,rfl⟩))
      go_ret3
      exact ⟨by rw [HG.out];simp [numV,hm],rfl⟩

theorem read_any (s:ByteArray) (a:Int) (w:World) (hs:s.size≤maxLen) (h1:-9223372036854775808≤a) (h2:a≤9223372036854775807):
  Calls Tryz.prog 90 #[.string s,.int .i64 a] w fun e w'=>e=.returned (numV (Nm.readNum s.data.toList a))∧w=w':=by
 by_cases h:a<0∨(s.size:Int)≤a
 ·exact read_out s a w hs h1 h2 h
 ·obtain ⟨k,rfl⟩:∃ k:Nat,a=k:=⟨a.toNat,by omega⟩
  have hk:k<s.size:=by omega
  by_cases h45:s[k]=45
  ·exact read_neg s k w hs hk h45
  ·exact read_pos s k w hs hk h45

end Go.Proofs.YtdhakbghdcfncaaGreatDoor
