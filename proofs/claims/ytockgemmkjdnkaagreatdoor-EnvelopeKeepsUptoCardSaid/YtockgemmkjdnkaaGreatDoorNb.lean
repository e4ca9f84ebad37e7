/- The walk of the reference's Read where a sign stands. -/
import Derived.Test.YtockgemmkjdnkaaGreatDoorNa
set_option maxRecDepth 100000
set_option maxHeartbeats 2000000
set_option linter.unusedVariables false
set_option linter.unusedSimpArgs false
namespace Go.Proofs.YtockgemmkjdnkaaGreatDoor
open Go.RowKit

theorem is_true (c:UInt8) (w:World) (h:Nm.isDig c=true):
  Calls Tryz.prog 89 #[.int .u8 c.toNat] w λe w'=>e=.returned (.bool true)/\w=w':=by
 have:=is_any c w;rw [h] at this;exact this
theorem is_false (c:UInt8) (w:World) (h:Nm.isDig c=false):
  Calls Tryz.prog 89 #[.int .u8 c.toNat] w λe w'=>e=.returned (.bool false)/\w=w':=by
 have:=is_any c w;rw [h] at this;exact this

theorem rread_neg (s:ByteArray) (k:Nat) (w:World) (hs:s.size<=maxLen) (hk:k<s.size) (h45:s[k]=45):
  Calls Tryz.prog 71 #[.string s,.int .i64 k] w λe w'=>e=.returned (numV (Nm.readNum s.data.toList k))/\w=w':=by
 unfold maxLen at hs;have hkl:k<s.data.toList.length:=by simpa using hk
 have hk0:decide ((k:Int)<0)=false:=dF (by omega);have hk1:decide (s.size<=k)=false:=dF (by omega);obtain ⟨c,hc⟩:∃ c,s[k]=c:=⟨_,rfl⟩;have hcd:=LH (getD_of hk hc);obtain rfl:c=45:=hc.symm.trans h45;clear h45;obtain ⟨f,hf⟩:∃ f:Nat,k+1=f:=⟨_,rfl⟩;have hfi:(k:Int)+1=(f:Int):=by omega
 have hff:=LH (show f=if s.data.toList.getD k 0=45 then k+1 else k by rw [hcd.out,if_pos rfl,hf]);have hfs:f<=s.size:=by omega
 have hfk:k<f:=by omega
 clear hf;obtain ⟨E,hE⟩:∃ E,f+Nm.digLen (s.data.toList.drop f)=E:=⟨_,rfl⟩;have hEs:E<=s.size:=by have:=Nm.digLen_le (s.data.toList.drop f);simp at this;omega
 have hfE:f<=E:=by omega
 have HE:=LH hE;clear hE;obtain ⟨D,hD⟩:∃ D,(s.data.toList.drop f).take (E - f)=D:=⟨_,rfl⟩;have HD:=LH hD;clear hD;have hst:Hid (Nm.RefInv D 0 false ((s.data.toList.drop f).take (E - f))):=by rw [HD.out];exact Nm.RefInv.start D
 go_enter Tryz.func71,Tryz.ntmps71
 go_wp2_with fail
 go_loop [7,9,10] (λi n g=>∃ (j m:Nat) (b:Bool),i=.int .i64 j/\n=.int .i64 m/\g=.bool b/\f<=j/\j<=s.size/\m<=9007199254740999/\Hid (E=j+Nm.digLen (s.data.toList.drop j))/\Hid (Nm.RefInv D m b ((s.data.toList.drop j).take (E - j)))) (λi _ _=>s.size - (intOf i).toNat)
 case atStart=>exact ⟨f,0,false,rfl,rfl,rfl,lR _,by omega,by omega,HE.out.symm,hst⟩
 case round=>
  obtain ⟨j,m,b,rfl,rfl,rfl,hfj,hj,hm9,hEj,hinv⟩:=hrel;by_cases hlt:j<s.size/\Nm.isDig (s.data.toList.getD j 0)=true
  ·obtain ⟨hlt,hdig⟩:=hlt;obtain ⟨d,hd⟩:∃ d,s[j]=d:=⟨_,rfl⟩;have hdd:=getD_of hlt hd;rw [hdd] at hdig;have hjl:j<s.data.toList.length:=by simpa using hlt
   have hde:s.data.toList[j]=d:=by rw [<- hd];rfl
   have ht:=Nm.take_dig hjl hEj.out (by rw [hde];exact hdig);rw [hde] at ht;have HT:=LH ht;have HG:=LH hdig;obtain ⟨hd1,hd2⟩:=Nm.isDig_iff.1 hdig;have hinv2:Hid (Nm.RefInv D m b (d::(s.data.toList.drop (j+1)).take (E - (j+1)))):=by have h:=hinv.out;rw [ht.1] at h;exact h
   clear hdd hde ht hdig hinv;rcases b with _ | _
   ·by_cases hgr:900719925474099<m
    ·go_wp2_with (go_at_call 89;refine (is_true d _ HG.out).mono ?_;rintro e w' ⟨rfl,rfl⟩)
     exact ⟨⟨j+1,m,true,by go_num,rfl,rfl,by omega,by omega,by omega,HT.out.2,hinv2.out.great hgr⟩,by simp [intOf];omega⟩
    ·have hgr2:m<=900719925474099:=by omega
     clear hgr;go_wp2_with (go_at_call 89;refine (is_true d _ HG.out).mono ?_;rintro e w' ⟨rfl,rfl⟩)
     refine ⟨⟨j+1,m*10+(d.toNat - 48),false,by go_num,?_,rfl,by omega,by omega,by omega,HT.out.2,hinv2.out.step hgr2 HG.out⟩,by simp [intOf];omega⟩;congr 1;omega
   ·by_cases hgr:900719925474099<m
    all_goals
     go_wp2_with (go_at_call 89;refine (is_true d _ HG.out).mono ?_;rintro e w' ⟨rfl,rfl⟩)
     exact ⟨⟨j+1,m,true,by go_num,rfl,rfl,by omega,by omega,by omega,HT.out.2,hinv2.out.stay⟩,by simp [intOf];omega⟩
  ·have hne:∀ h:j<s.data.toList.length,Nm.isDig s.data.toList[j]=false:=by
    intro h;have h2:s.data.toList.getD j 0=s.data.toList[j]:=by rw [List.getD_eq_getElem?_getD,List.getElem?_eq_getElem h];rfl
    rw [<- h2]
    cases hq:Nm.isDig (s.data.toList.getD j 0)
    ·rfl
    ·exact absurd ⟨by simpa using h,hq⟩ hlt
   obtain ⟨rfl,hnil⟩:=Nm.take_non hEj.out hne;have hinv2:Hid (Nm.RefInv D m b []):=by have h:=hinv.out;rw [hnil] at h;exact h
   have hlt2:(E<s.size/\Nm.isDig (s.data.toList.getD E 0)=false)\/s.size<=E:=by
    by_cases h:E<s.size
    ·left;refine ⟨h,?_⟩;cases hq:Nm.isDig (s.data.toList.getD E 0);rfl;exact absurd ⟨h,hq⟩ hlt
    ·right;omega
   clear hne hnil hinv hlt hst hEj;have hbad:Hid (E=f\/(s.data.toList.getD f 0=48/\1<E - f)->Nm.readNum s.data.toList k=(0,(k:Int),30)):=λh=>Nm.readNum_bad hkl hff.out HE.out (h.elim .inl λh=>.inr (.inl h))
   have hnon:Hid (Nm.valFrom 0 D=none->Nm.readNum s.data.toList k=(0,(k:Int),30)):=λh=>Nm.readNum_none hkl hff.out HE.out (by rw [HD.out];exact h)
   have hsome:Hid (Nm.valFrom 0 D=some m -> ¬ (E=f\/(s.data.toList.getD f 0=48/\1<E - f)\/(E<s.data.toList.length/\(s.data.toList.getD E 0=46\/s.data.toList.getD E 0=101\/s.data.toList.getD E 0=69)))->Nm.readNum s.data.toList k=(if s.data.toList.getD k 0=45 then -(m:Int) else m,(E:Int),0)):=λh h2=>by
    rw [Nm.readNum_good hkl hff.out HE.out h2,HD.out,h]
   have hbad2:Hid (E<s.size->(s.data.toList.getD E 0=46\/s.data.toList.getD E 0=101\/s.data.toList.getD E 0=69)->Nm.readNum s.data.toList k=(0,(k:Int),30)):=λh h2=>Nm.readNum_bad hkl hff.out HE.out (.inr (.inr ⟨by simpa using h,h2⟩))
   clear hff HE HD;rcases hlt2 with ⟨hlt,hdig⟩ | hge
   ·obtain ⟨d,hd⟩:∃ d,s[E]=d:=⟨_,rfl⟩;have hdd:=LH (getD_of hlt hd);rw [hdd.out] at hdig;have HG:=LH hdig;clear hdig;by_cases h1:E=f
    ·have hb1:((E:Int) == (f:Int))=true:=by rw [beq_iff_eq];omega
     have H1:=LH h1;clear h1;have hr:Hid (Nm.readNum s.data.toList k=(0,(k:Int),30)):=hbad.out (.inl H1.out);clear hbad hnon hsome hbad2;go_wp2_with (go_at_call 89;refine (is_false d _ HG.out).mono ?_;rintro e w' ⟨rfl,rfl⟩)
     all_goals
      go_ret3
      exact ⟨by rw [hr.out];rfl,rfl⟩
    ·have hb1:((E:Int) == (f:Int))=false:=by rw [beq_eq_false_iff_ne];omega
     have hfE2:f<E:=by omega
     clear h1;rcases b with _ | _
     ·by_cases hm:9007199254740991<m
      ·skip
       have hr:Hid (Nm.readNum s.data.toList k=(0,(k:Int),30)):=hnon.out (hinv2.out.done_big hm);clear hbad hnon hsome hbad2;go_wp2_with (go_at_call 89;refine (is_false d _ HG.out).mono ?_;rintro e w' ⟨rfl,rfl⟩)
       all_goals
        go_ret3
        exact ⟨by rw [hr.out];rfl,rfl⟩
      ·have hm2:m<=9007199254740991:=by omega
       clear hm;have hv:=LH (hinv2.out.done hm2);obtain ⟨c1,hc1⟩:∃ c1,s[f]=c1:=⟨_,rfl⟩;have hc1d:=LH (getD_of (by omega) hc1);by_cases h2:c1=48/\1<E - f
       ·obtain ⟨h48,h2⟩:=h2;have hc48:((c1.toNat:Int) == 48)=true:=by rw [h48];rfl
        have h2':(1:Int)<(E:Int) - (f:Int):=by omega
        have H48:=LH h48;clear h48;have hr:Hid (Nm.readNum s.data.toList k=(0,(k:Int),30)):=hbad.out (.inr ⟨hc1d.out.trans H48.out,h2⟩);clear hbad hnon hsome hbad2;go_wp2_with (go_at_call 89;refine (is_false d _ HG.out).mono ?_;rintro e w' ⟨rfl,rfl⟩)
        all_goals
         go_ret3
         exact ⟨by rw [hr.out];rfl,rfl⟩
       ·have h4:((E:Int) - (f:Int)<=1)\/((1:Int)<(E:Int) - (f:Int)/\((c1.toNat:Int) == 48)=false):=by
         by_cases h:1<E - f
         ·right;exact ⟨by omega,u8ne (d:=48) λh'=>h2 ⟨h',h⟩⟩
         ·left;omega
        have H2:=LH h2;clear h2;by_cases h46:d=46
        ·have hr:Hid (Nm.readNum s.data.toList k=(0,(k:Int),30)):=hbad2.out hlt (by rw [hdd.out,h46];simp);have hx:((d.toNat:Int) == 46)=true:=by rw [h46];rfl
         clear hbad hnon hsome hbad2 h46;rcases h4 with h4 | ⟨h4,h4'⟩;all_goals
          go_wp2_with (go_at_call 89;refine (is_false d _ HG.out).mono ?_;rintro e w' ⟨rfl,rfl⟩)
          go_ret3
          exact ⟨by rw [hr.out];rfl,rfl⟩
        have hx46:((d.toNat:Int) == 46)=false:=u8ne (d:=46) h46;by_cases h101:d=101
        ·have hr:Hid (Nm.readNum s.data.toList k=(0,(k:Int),30)):=hbad2.out hlt (by rw [hdd.out,h101];simp);have hx:((d.toNat:Int) == 101)=true:=by rw [h101];rfl
         clear hbad hnon hsome hbad2 h101;rcases h4 with h4 | ⟨h4,h4'⟩;all_goals
          go_wp2_with (go_at_call 89;refine (is_false d _ HG.out).mono ?_;rintro e w' ⟨rfl,rfl⟩)
          go_ret3
          exact ⟨by rw [hr.out];rfl,rfl⟩
        have hx101:((d.toNat:Int) == 101)=false:=u8ne (d:=101) h101;by_cases h69:d=69
        ·have hr:Hid (Nm.readNum s.data.toList k=(0,(k:Int),30)):=hbad2.out hlt (by rw [hdd.out,h69];simp);have hx:((d.toNat:Int) == 69)=true:=by rw [h69];rfl
         clear hbad hnon hsome hbad2 h69;rcases h4 with h4 | ⟨h4,h4'⟩;all_goals
          go_wp2_with (go_at_call 89;refine (is_false d _ HG.out).mono ?_;rintro e w' ⟨rfl,rfl⟩)
          go_ret3
          exact ⟨by rw [hr.out];rfl,rfl⟩
        have hx69:((d.toNat:Int) == 69)=false:=u8ne (d:=69) h69;have h5:¬ (d=46\/d=101\/d=69):=λh=>h.elim h46 λh=>h.elim h101 h69
        clear h46 h101 h69;have hr:=LH (hsome.out hv.out (λh=>h.elim (λh=>by omega) λh=>h.elim (λh=>H2.out ⟨hc1d.out.symm.trans h.1,h.2⟩) λh=>h5 (by have h:=h.2;rw [hdd.out] at h;exact h)));clear hbad hnon hsome hbad2;clear h5;rcases h4 with h4 | ⟨h4,h4'⟩;all_goals
         go_wp2_with (go_at_call 89;refine (is_false d _ HG.out).mono ?_;rintro e w' ⟨rfl,rfl⟩)
         go_ret3
         exact ⟨by rw [hr.out,hcd.out];simp [numV],rfl⟩
     ·by_cases hm:9007199254740991<m
      all_goals
       have hr:Hid (Nm.readNum s.data.toList k=(0,(k:Int),30)):=hnon.out hinv2.out.done_true;clear hbad hnon hsome hbad2;go_wp2_with (go_at_call 89;refine (is_false d _ HG.out).mono ?_;rintro e w' ⟨rfl,rfl⟩)
       all_goals
        go_ret3
        exact ⟨by rw [hr.out];rfl,rfl⟩
   ·skip
    by_cases h1:E=f
    ·have hb1:((E:Int) == (f:Int))=true:=by rw [beq_iff_eq];omega
     have H1:=LH h1;clear h1;have hr:Hid (Nm.readNum s.data.toList k=(0,(k:Int),30)):=hbad.out (.inl H1.out);clear hbad hnon hsome hbad2;go_wp2_with fail
     all_goals
      go_ret3
      exact ⟨by rw [hr.out];rfl,rfl⟩
    ·have hb1:((E:Int) == (f:Int))=false:=by rw [beq_eq_false_iff_ne];omega
     have hfE2:f<E:=by omega
     clear h1;rcases b with _ | _
     ·by_cases hm:9007199254740991<m
      ·skip
       have hr:Hid (Nm.readNum s.data.toList k=(0,(k:Int),30)):=hnon.out (hinv2.out.done_big hm);clear hbad hnon hsome hbad2;go_wp2_with fail
       all_goals
        go_ret3
        exact ⟨by rw [hr.out];rfl,rfl⟩
      ·have hm2:m<=9007199254740991:=by omega
       clear hm;have hv:=LH (hinv2.out.done hm2);obtain ⟨c1,hc1⟩:∃ c1,s[f]=c1:=⟨_,rfl⟩;have hc1d:=LH (getD_of (by omega) hc1);by_cases h2:c1=48/\1<E - f
       ·obtain ⟨h48,h2⟩:=h2;have hc48:((c1.toNat:Int) == 48)=true:=by rw [h48];rfl
        have h2':(1:Int)<(E:Int) - (f:Int):=by omega
        have H48:=LH h48;clear h48;have hr:Hid (Nm.readNum s.data.toList k=(0,(k:Int),30)):=hbad.out (.inr ⟨hc1d.out.trans H48.out,h2⟩);clear hbad hnon hsome hbad2;go_wp2_with fail
        all_goals
         go_ret3
         exact ⟨by rw [hr.out];rfl,rfl⟩
       ·have h4:((E:Int) - (f:Int)<=1)\/((1:Int)<(E:Int) - (f:Int)/\((c1.toNat:Int) == 48)=false):=by
         by_cases h:1<E - f
         ·right;exact ⟨by omega,u8ne (d:=48) λh'=>h2 ⟨h',h⟩⟩
         ·left;omega
        have H2:=LH h2;clear h2;have hr:=LH (hsome.out hv.out (λh=>h.elim (λh=>by omega) λh=>h.elim (λh=>H2.out ⟨hc1d.out.symm.trans h.1,h.2⟩) λh=>by have h:=h.1;simp at h;omega));clear hbad hnon hsome hbad2;rcases h4 with h4 | ⟨h4,h4'⟩;all_goals
         go_wp2_with fail
         go_ret3
         exact ⟨by rw [hr.out,hcd.out];simp [numV],rfl⟩
     ·by_cases hm:9007199254740991<m
      all_goals
       have hr:Hid (Nm.readNum s.data.toList k=(0,(k:Int),30)):=hnon.out hinv2.out.done_true;clear hbad hnon hsome hbad2;go_wp2_with fail
       all_goals
        go_ret3
        exact ⟨by rw [hr.out];rfl,rfl⟩

/- The walk of the reference's Read where none stands. -/

theorem rread_pos (s:ByteArray) (k:Nat) (w:World) (hs:s.size<=maxLen) (hk:k<s.size) (h45:s[k]≠45):
  Calls Tryz.prog 71 #[.string s,.int .i64 k] w λe w'=>e=.returned (numV (Nm.readNum s.data.toList k))/\w=w':=by
 unfold maxLen at hs;have hkl:k<s.data.toList.length:=by simpa using hk
 have hk0:decide ((k:Int)<0)=false:=dF (by omega);have hk1:decide (s.size<=k)=false:=dF (by omega);obtain ⟨c,hc⟩:∃ c,s[k]=c:=⟨_,rfl⟩;have hcd:=LH (getD_of hk hc);have hm:¬ c=45:=λh=>h45 (hc.trans h)
 clear h45;have hc45:((c.toNat:Int) == 45)=false:=u8ne (d:=45) hm;have hff:=LH (show k=if s.data.toList.getD k 0=45 then k+1 else k by rw [hcd.out,if_neg hm]);have Hm:=LH hm;clear hm;obtain ⟨E,hE⟩:∃ E,k+Nm.digLen (s.data.toList.drop k)=E:=⟨_,rfl⟩;have hEs:E<=s.size:=by have:=Nm.digLen_le (s.data.toList.drop k);simp at this;omega
 have hfE:k<=E:=by omega
 have HE:=LH hE;clear hE;obtain ⟨D,hD⟩:∃ D,(s.data.toList.drop k).take (E - k)=D:=⟨_,rfl⟩;have HD:=LH hD;clear hD;have hst:Hid (Nm.RefInv D 0 false ((s.data.toList.drop k).take (E - k))):=by rw [HD.out];exact Nm.RefInv.start D
 go_enter Tryz.func71,Tryz.ntmps71
 go_wp2_with fail
 go_loop [7,9,10] (λi n g=>∃ (j m:Nat) (b:Bool),i=.int .i64 j/\n=.int .i64 m/\g=.bool b/\k<=j/\j<=s.size/\m<=9007199254740999/\Hid (E=j+Nm.digLen (s.data.toList.drop j))/\Hid (Nm.RefInv D m b ((s.data.toList.drop j).take (E - j)))) (λi _ _=>s.size - (intOf i).toNat)
 case atStart=>exact ⟨k,0,false,rfl,rfl,rfl,lR _,by omega,by omega,HE.out.symm,hst⟩
 case round=>
  obtain ⟨j,m,b,rfl,rfl,rfl,hfj,hj,hm9,hEj,hinv⟩:=hrel;by_cases hlt:j<s.size/\Nm.isDig (s.data.toList.getD j 0)=true
  ·obtain ⟨hlt,hdig⟩:=hlt;obtain ⟨d,hd⟩:∃ d,s[j]=d:=⟨_,rfl⟩;have hdd:=getD_of hlt hd;rw [hdd] at hdig;have hjl:j<s.data.toList.length:=by simpa using hlt
   have hde:s.data.toList[j]=d:=by rw [<- hd];rfl
   have ht:=Nm.take_dig hjl hEj.out (by rw [hde];exact hdig);rw [hde] at ht;have HT:=LH ht;have HG:=LH hdig;obtain ⟨hd1,hd2⟩:=Nm.isDig_iff.1 hdig;have hinv2:Hid (Nm.RefInv D m b (d::(s.data.toList.drop (j+1)).take (E - (j+1)))):=by have h:=hinv.out;rw [ht.1] at h;exact h
   clear hdd hde ht hdig hinv;rcases b with _ | _
   ·by_cases hgr:900719925474099<m
    ·go_wp2_with (go_at_call 89;refine (is_true d _ HG.out).mono ?_;rintro e w' ⟨rfl,rfl⟩)
     exact ⟨⟨j+1,m,true,by go_num,rfl,rfl,by omega,by omega,by omega,HT.out.2,hinv2.out.great hgr⟩,by simp [intOf];omega⟩
    ·have hgr2:m<=900719925474099:=by omega
     clear hgr;go_wp2_with (go_at_call 89;refine (is_true d _ HG.out).mono ?_;rintro e w' ⟨rfl,rfl⟩)
     refine ⟨⟨j+1,m*10+(d.toNat - 48),false,by go_num,?_,rfl,by omega,by omega,by omega,HT.out.2,hinv2.out.step hgr2 HG.out⟩,by simp [intOf];omega⟩;congr 1;omega
   ·by_cases hgr:900719925474099<m
    all_goals
     go_wp2_with (go_at_call 89;refine (is_true d _ HG.out).mono ?_;rintro e w' ⟨rfl,rfl⟩)
     exact ⟨⟨j+1,m,true,by go_num,rfl,rfl,by omega,by omega,by omega,HT.out.2,hinv2.out.stay⟩,by simp [intOf];omega⟩
  ·have hne:∀ h:j<s.data.toList.length,Nm.isDig s.data.toList[j]=false:=by
    intro h;have h2:s.data.toList.getD j 0=s.data.toList[j]:=by rw [List.getD_eq_getElem?_getD,List.getElem?_eq_getElem h];rfl
    rw [<- h2]
    cases hq:Nm.isDig (s.data.toList.getD j 0)
    ·rfl
    ·exact absurd ⟨by simpa using h,hq⟩ hlt
   obtain ⟨rfl,hnil⟩:=Nm.take_non hEj.out hne;have hinv2:Hid (Nm.RefInv D m b []):=by have h:=hinv.out;rw [hnil] at h;exact h
   have hlt2:(E<s.size/\Nm.isDig (s.data.toList.getD E 0)=false)\/s.size<=E:=by
    by_cases h:E<s.size
    ·left;refine ⟨h,?_⟩;cases hq:Nm.isDig (s.data.toList.getD E 0);rfl;exact absurd ⟨h,hq⟩ hlt
    ·right;omega
   clear hne hnil hinv hlt hst hEj;have hbad:Hid (E=k\/(s.data.toList.getD k 0=48/\1<E - k)->Nm.readNum s.data.toList k=(0,(k:Int),30)):=λh=>Nm.readNum_bad hkl hff.out HE.out (h.elim .inl λh=>.inr (.inl h))
   have hnon:Hid (Nm.valFrom 0 D=none->Nm.readNum s.data.toList k=(0,(k:Int),30)):=λh=>Nm.readNum_none hkl hff.out HE.out (by rw [HD.out];exact h)
   have hsome:Hid (Nm.valFrom 0 D=some m -> ¬ (E=k\/(s.data.toList.getD k 0=48/\1<E - k)\/(E<s.data.toList.length/\(s.data.toList.getD E 0=46\/s.data.toList.getD E 0=101\/s.data.toList.getD E 0=69)))->Nm.readNum s.data.toList k=(if s.data.toList.getD k 0=45 then -(m:Int) else m,(E:Int),0)):=λh h2=>by
    rw [Nm.readNum_good hkl hff.out HE.out h2,HD.out,h]
   have hbad2:Hid (E<s.size->(s.data.toList.getD E 0=46\/s.data.toList.getD E 0=101\/s.data.toList.getD E 0=69)->Nm.readNum s.data.toList k=(0,(k:Int),30)):=λh h2=>Nm.readNum_bad hkl hff.out HE.out (.inr (.inr ⟨by simpa using h,h2⟩))
   clear hff HE HD;rcases hlt2 with ⟨hlt,hdig⟩ | hge
   ·obtain ⟨d,hd⟩:∃ d,s[E]=d:=⟨_,rfl⟩;have hdd:=LH (getD_of hlt hd);rw [hdd.out] at hdig;have HG:=LH hdig;clear hdig;by_cases h1:E=k
    ·have hb1:((E:Int) == (k:Int))=true:=by rw [beq_iff_eq];omega
     have H1:=LH h1;clear h1;have hr:Hid (Nm.readNum s.data.toList k=(0,(k:Int),30)):=hbad.out (.inl H1.out);clear hbad hnon hsome hbad2;go_wp2_with (go_at_call 89;refine (is_false d _ HG.out).mono ?_;rintro e w' ⟨rfl,rfl⟩)
     all_goals
      go_ret3
      exact ⟨by rw [hr.out];rfl,rfl⟩
    ·have hb1:((E:Int) == (k:Int))=false:=by rw [beq_eq_false_iff_ne];omega
     have hfE2:k<E:=by omega
     clear h1;rcases b with _ | _
     ·by_cases hm:9007199254740991<m
      ·skip
       have hr:Hid (Nm.readNum s.data.toList k=(0,(k:Int),30)):=hnon.out (hinv2.out.done_big hm);clear hbad hnon hsome hbad2;go_wp2_with (go_at_call 89;refine (is_false d _ HG.out).mono ?_;rintro e w' ⟨rfl,rfl⟩)
       all_goals
        go_ret3
        exact ⟨by rw [hr.out];rfl,rfl⟩
      ·have hm2:m<=9007199254740991:=by omega
       clear hm;have hv:=LH (hinv2.out.done hm2);by_cases h2:c=48/\1<E - k
       ·obtain ⟨h48,h2⟩:=h2;have hc48:((c.toNat:Int) == 48)=true:=by rw [h48];rfl
        have h2':(1:Int)<(E:Int) - (k:Int):=by omega
        have H48:=LH h48;clear h48;have hr:Hid (Nm.readNum s.data.toList k=(0,(k:Int),30)):=hbad.out (.inr ⟨hcd.out.trans H48.out,h2⟩);clear hbad hnon hsome hbad2;go_wp2_with (go_at_call 89;refine (is_false d _ HG.out).mono ?_;rintro e w' ⟨rfl,rfl⟩)
        all_goals
         go_ret3
         exact ⟨by rw [hr.out];rfl,rfl⟩
       ·have h4:((E:Int) - (k:Int)<=1)\/((1:Int)<(E:Int) - (k:Int)/\((c.toNat:Int) == 48)=false):=by
         by_cases h:1<E - k
         ·right;exact ⟨by omega,u8ne (d:=48) λh'=>h2 ⟨h',h⟩⟩
         ·left;omega
        have H2:=LH h2;clear h2;by_cases h46:d=46
        ·have hr:Hid (Nm.readNum s.data.toList k=(0,(k:Int),30)):=hbad2.out hlt (by rw [hdd.out,h46];simp);have hx:((d.toNat:Int) == 46)=true:=by rw [h46];rfl
         clear hbad hnon hsome hbad2 h46;rcases h4 with h4 | ⟨h4,h4'⟩;all_goals
          go_wp2_with (go_at_call 89;refine (is_false d _ HG.out).mono ?_;rintro e w' ⟨rfl,rfl⟩)
          go_ret3
          exact ⟨by rw [hr.out];rfl,rfl⟩
        have hx46:((d.toNat:Int) == 46)=false:=u8ne (d:=46) h46;by_cases h101:d=101
        ·have hr:Hid (Nm.readNum s.data.toList k=(0,(k:Int),30)):=hbad2.out hlt (by rw [hdd.out,h101];simp);have hx:((d.toNat:Int) == 101)=true:=by rw [h101];rfl
         clear hbad hnon hsome hbad2 h101;rcases h4 with h4 | ⟨h4,h4'⟩;all_goals
          go_wp2_with (go_at_call 89;refine (is_false d _ HG.out).mono ?_;rintro e w' ⟨rfl,rfl⟩)
          go_ret3
          exact ⟨by rw [hr.out];rfl,rfl⟩
        have hx101:((d.toNat:Int) == 101)=false:=u8ne (d:=101) h101;by_cases h69:d=69
        ·have hr:Hid (Nm.readNum s.data.toList k=(0,(k:Int),30)):=hbad2.out hlt (by rw [hdd.out,h69];simp);have hx:((d.toNat:Int) == 69)=true:=by rw [h69];rfl
         clear hbad hnon hsome hbad2 h69;rcases h4 with h4 | ⟨h4,h4'⟩;all_goals
          go_wp2_with (go_at_call 89;refine (is_false d _ HG.out).mono ?_;rintro e w' ⟨rfl,rfl⟩)
          go_ret3
          exact ⟨by rw [hr.out];rfl,rfl⟩
        have hx69:((d.toNat:Int) == 69)=false:=u8ne (d:=69) h69;have h5:¬ (d=46\/d=101\/d=69):=λh=>h.elim h46 λh=>h.elim h101 h69
        clear h46 h101 h69;have hr:=LH (hsome.out hv.out (λh=>h.elim (λh=>by omega) λh=>h.elim (λh=>H2.out ⟨hcd.out.symm.trans h.1,h.2⟩) λh=>h5 (by have h:=h.2;rw [hdd.out] at h;exact h)));clear hbad hnon hsome hbad2;clear h5;rcases h4 with h4 | ⟨h4,h4'⟩;all_goals
         go_wp2_with (go_at_call 89;refine (is_false d _ HG.out).mono ?_;rintro e w' ⟨rfl,rfl⟩)
         go_ret3
         exact ⟨by rw [hr.out,hcd.out,if_neg Hm.out];rfl,rfl⟩
     ·by_cases hm:9007199254740991<m
      all_goals
       have hr:Hid (Nm.readNum s.data.toList k=(0,(k:Int),30)):=hnon.out hinv2.out.done_true;clear hbad hnon hsome hbad2;go_wp2_with (go_at_call 89;refine (is_false d _ HG.out).mono ?_;rintro e w' ⟨rfl,rfl⟩)
       all_goals
        go_ret3
        exact ⟨by rw [hr.out];rfl,rfl⟩
   ·skip
    by_cases h1:E=k
    ·have hb1:((E:Int) == (k:Int))=true:=by rw [beq_iff_eq];omega
     have H1:=LH h1;clear h1;have hr:Hid (Nm.readNum s.data.toList k=(0,(k:Int),30)):=hbad.out (.inl H1.out);clear hbad hnon hsome hbad2;go_wp2_with fail
     all_goals
      go_ret3
      exact ⟨by rw [hr.out];rfl,rfl⟩
    ·have hb1:((E:Int) == (k:Int))=false:=by rw [beq_eq_false_iff_ne];omega
     have hfE2:k<E:=by omega
     clear h1;rcases b with _ | _
     ·by_cases hm:9007199254740991<m
      ·skip
       have hr:Hid (Nm.readNum s.data.toList k=(0,(k:Int),30)):=hnon.out (hinv2.out.done_big hm);clear hbad hnon hsome hbad2;go_wp2_with fail
       all_goals
        go_ret3
        exact ⟨by rw [hr.out];rfl,rfl⟩
      ·have hm2:m<=9007199254740991:=by omega
       clear hm;have hv:=LH (hinv2.out.done hm2);by_cases h2:c=48/\1<E - k
       ·obtain ⟨h48,h2⟩:=h2;have hc48:((c.toNat:Int) == 48)=true:=by rw [h48];rfl
        have h2':(1:Int)<(E:Int) - (k:Int):=by omega
        have H48:=LH h48;clear h48;have hr:Hid (Nm.readNum s.data.toList k=(0,(k:Int),30)):=hbad.out (.inr ⟨hcd.out.trans H48.out,h2⟩);clear hbad hnon hsome hbad2;go_wp2_with fail
        all_goals
         go_ret3
         exact ⟨by rw [hr.out];rfl,rfl⟩
       ·have h4:((E:Int) - (k:Int)<=1)\/((1:Int)<(E:Int) - (k:Int)/\((c.toNat:Int) == 48)=false):=by
         by_cases h:1<E - k
         ·right;exact ⟨by omega,u8ne (d:=48) λh'=>h2 ⟨h',h⟩⟩
         ·left;omega
        have H2:=LH h2;clear h2;have hr:=LH (hsome.out hv.out (λh=>h.elim (λh=>by omega) λh=>h.elim (λh=>H2.out ⟨hcd.out.symm.trans h.1,h.2⟩) λh=>by have h:=h.1;simp at h;omega));clear hbad hnon hsome hbad2;rcases h4 with h4 | ⟨h4,h4'⟩;all_goals
         go_wp2_with fail
         go_ret3
         exact ⟨by rw [hr.out,hcd.out,if_neg Hm.out];rfl,rfl⟩
     ·by_cases hm:9007199254740991<m
      all_goals
       have hr:Hid (Nm.readNum s.data.toList k=(0,(k:Int),30)):=hnon.out hinv2.out.done_true;clear hbad hnon hsome hbad2;go_wp2_with fail
       all_goals
        go_ret3
        exact ⟨by rw [hr.out];rfl,rfl⟩

theorem rread_out (s:ByteArray) (a:Int) (w:World) (hs:s.size<=maxLen) (h1:-9223372036854775808<=a) (h2:a<=9223372036854775807) (h:a<0\/(s.size:Int)<=a):
  Calls Tryz.prog 71 #[.string s,.int .i64 a] w λe w'=>e=.returned (numV (Nm.readNum s.data.toList a))/\w=w':=by
 have hr:=LH (Nm.readNum_out (l:=s.data.toList) (a:=a) (by simpa using h));unfold maxLen at hs;by_cases hn:a<0
 ·clear h;go_enter Tryz.func71,Tryz.ntmps71
  go_wp2
  go_ret3
  exact ⟨by rw [hr.out];rfl,rfl⟩
 ·have hn2:(s.size:Int)<=a:=by omega
  clear h;go_enter Tryz.func71,Tryz.ntmps71
  go_wp2
  go_ret3
  exact ⟨by rw [hr.out];rfl,rfl⟩

theorem rread_any (s:ByteArray) (a:Int) (w:World) (hs:s.size<=maxLen) (h1:-9223372036854775808<=a) (h2:a<=9223372036854775807):
  Calls Tryz.prog 71 #[.string s,.int .i64 a] w λe w'=>e=.returned (numV (Nm.readNum s.data.toList a))/\w=w':=by
 by_cases h:a<0\/(s.size:Int)<=a
 ·exact rread_out s a w hs h1 h2 h
 ·obtain ⟨k,rfl⟩:∃ k:Nat,a=k:=⟨a.toNat,by omega⟩;have hk:k<s.size:=by omega
  by_cases h45:s[k]=45
  ·exact rread_neg s k w hs hk h45
  ·exact rread_pos s k w hs hk h45

end Go.Proofs.YtockgemmkjdnkaaGreatDoor
