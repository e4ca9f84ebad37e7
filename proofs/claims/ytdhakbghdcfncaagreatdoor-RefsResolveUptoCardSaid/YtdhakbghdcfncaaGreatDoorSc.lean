/- The walk of the scanner's one. -/
import Derived.Test.YtdhakbghdcfncaaGreatDoorSb
import Derived.Test.YtdhakbghdcfncaaGreatDoorCd
import Derived.Test.YtdhakbghdcfncaaGreatDoorNumsD
import Derived.Test.YtdhakbghdcfncaaGreatDoorShelf
import Derived.Test.YtdhakbghdcfncaaGreatDoorKa
import Derived.Test.YtdhakbghdcfncaaGreatDoorScanC
namespace Go.Proofs.YtdhakbghdcfncaaGreatDoor
set_option maxRecDepth 100000
set_option maxHeartbeats 4000000
set_option linter.unusedVariables false
set_option linter.unusedSimpArgs false
open Go.RowKit

theorem cread_tx (s:ByteArray) (i:Nat) (w:World) (d:List UInt8) (n e:Nat) (hs:s.size≤65536) (hi:i<s.size) (hT:LowTabs w) (hr:Chr.read s.data.toList i=(d,(n:Int),(e:Int))):
  Calls Tryz.prog 88 #[.string s,.int .i64 i] w fun x w'=>x=.returned (.tuple #[.string ⟨d.toArray⟩,.int .i64 n,.int .i64 e])∧Fr w w':=by
 refine (cread_is s i w (by omega) (by omega) (by omega) hT).mono ?_
 rintro x w' ⟨rfl,hf⟩
 exact ⟨by rw [hr];rfl,hf⟩
theorem nread_tx (s:ByteArray) (i:Nat) (w:World) (v:Int) (n e:Nat) (hs:s.size≤65536) (hi:i<s.size) (hr:Nm.readNum s.data.toList i=(v,(n:Int),(e:Int))):
  Calls Tryz.prog 90 #[.string s,.int .i64 i] w fun x w'=>x=.returned (.tuple #[.int .i64 v,.int .i64 n,.int .i64 e])∧w=w':=by
 refine (read_any s i w (by unfold maxLen;omega) (by omega) (by omega)).mono ?_
 rintro x w' ⟨rfl,hf⟩
 exact ⟨by rw [hr];rfl,hf⟩
theorem mark_idx (c:UInt8):Scn.mark c=decide (0≤Lib.indexByte [123,125,91,93,58,44] c):=by
 have h:∀ n:Fin 256,Scn.mark (UInt8.ofFin n)=decide (0≤Lib.indexByte [123,125,91,93,58,44] (UInt8.ofFin n)):=by decide +kernel
 exact h c.toFin

def OneP (B:Nat) (s:ByteArray) (k:Nat) (ts:List Scn.Tok) (w:World) (e:Ending) (w':World):Prop:=
 match Scn.tokAt s.data.toList k with
 | .err x p=>e=.returned (.int .i64 x)∧x≠0∧(∃ v',Sc B s p v' ts w')∧Below B w w'
 | .tok t n=>e=.returned (.int .i64 0)∧(∃ v',Sc B s n v' (ts++[t]) w')∧Below B w w'

theorem OneP.tok {B k n:Nat} {s:ByteArray} {ts:List Scn.Tok} {t:Scn.Tok} {w w':World} (h:Scn.tokAt s.data.toList k=.tok t n) (hs:∃ v',Sc B s n v' (ts++[t]) w') (hb:Below B w w'):OneP B s k ts w (.returned (.int .i64 0)) w':=by
 unfold OneP;rw [h];exact ⟨rfl,hs,hb⟩
theorem OneP.err {B k p x:Nat} {s:ByteArray} {ts:List Scn.Tok} {w w':World} (h:Scn.tokAt s.data.toList k=.err x p) (hx:x≠0) (hs:∃ v',Sc B s p v' ts w') (hb:Below B w w'):OneP B s k ts w (.returned (.int .i64 x)) w':=by
 unfold OneP;rw [h];exact ⟨rfl,hx,hs,hb⟩
theorem Sc.move {B k n:Nat} {s:ByteArray} {v:Value} {ts:List Scn.Tok} {w w1:World} (h:Sc B s k v ts w) (h1:Fr w w1):
  Sc B s n v ts (w1.setCell ⟨B,1,none⟩ (.int .i64 n))∧Below B w (w1.setCell ⟨B,1,none⟩ (.int .i64 n)):=by
 have h2:=h.keep h1
 refine ⟨⟨by simpa using h2.lt,?_,?_,?_,fun j=>?_,tks_below h2.tks 1⟩,Below.setCell (Below.mono h1 (Nat.le_of_lt h.lt)) (p:=⟨B,1,none⟩) (Nat.le_refl _) _⟩
 ·rw [World.cell?_setCell_other _ _ _ _ (by simp)];exact h2.c0
 ·rw [World.cell?_setCell_same _ _ _ h2.c1]
 ·rw [World.cell?_setCell_other _ _ _ _ (by simp)];exact h2.c2
 ·rw [World.frozen?_setCell];exact h2.fz j

theorem one_text (B k:Nat) (s:ByteArray) (v:Value) (ts:List Scn.Tok) (w:World) (h:Sc B s k v ts w) (hs:s.size≤65536) (hk:k<s.size) (h63:(ts.length+1)*40≤140737488355328) (hT:LowTabs w) (q34:s[k]=34):
  Calls Tryz.prog 69 #[.pointer (some ⟨B,0,none⟩)] w (OneP B s k ts w):=by
 have hlt:=h.lt
 have c0:=h.c0
 have c1:=h.c1
 have f1:=h.fz 1
 have HS:=Lib.hid h
 clear h
 have hl:s.data.toList.length=s.size:=by simp
 have HL:=Lib.hid hl
 clear hl
 obtain ⟨c,hcc⟩:∃ c,s[k]=c:=⟨_,rfl⟩
 have hcd:=Lib.hid (getD_of hk hcc)
 have hll:Hid (k<s.data.toList.length):=by show _<_;rw [HL.out];exact hk
 have b2:(0:Int)≤(k:Int):=by omega
 have b4:(k:Int)<(s.size:Int):=by omega
 have HT:=Lib.hid hT
 clear hT
 rw [hcc] at q34
 have e34:((c.toNat:Int) == 34)=true:=by rw [q34];rfl
 have Q34:=Lib.hid q34
 clear q34
 rcases Scn.tokAt_text hll.out (by rw [hcd.out];exact Q34.out) with ⟨d,n,hr,ht⟩ | ⟨n,e,he,hn,hr,ht⟩
 ·have HR:=Lib.hid hr
  have HTK:=Lib.hid ht
  clear hr ht
  go_enter Tryz.func69,Tryz.ntmps69
  go_wp2_with fail
  go_quiet (fail)
  go_wp2_with fail
  go_region_with (go_at_call 88;refine (cread_tx s k _ d n 0 hs hk (HT.out.keep (((Fr.refl w).drewN _).drew)) HR.out).mono ?_;rintro e w1 ⟨rfl,hf1⟩;have hc1:=hf1.cells;have HF1:=Lib.hid (((Fr.refl w).drewN _).drew.trans hf1);clear hf1)
  all_goals
   go_wp2_with (go_at_call 89;refine (lay_at B k n 4 _ _ _ 0 s _ d v ts _ (HS.out.keep HF1.out) h63 (by rfl) (by rfl) (by rfl) (by rfl)).mono ?_;rintro e w3 ⟨rfl,hsc',hb3⟩;have HSC:=Lib.hid hsc';have HB3:=Lib.hid hb3;clear hsc' hb3)
   go_ret
   exact OneP.tok HTK.out HSC.out (Below.trans (Below.mono HF1.out (Nat.le_of_lt hlt)) HB3.out)
 ·have HR:=Lib.hid hr
  have HTK:=Lib.hid ht
  have hne:((e:Int) != 0)=true:=by rw [bne_iff_ne];omega
  have he0:e≠0:=by omega
  clear hr ht he hn
  go_enter Tryz.func69,Tryz.ntmps69
  go_wp2_with fail
  go_quiet (fail)
  go_wp2_with fail
  go_region_with (go_at_call 88;refine (cread_tx s k _ [] n e hs hk (HT.out.keep (((Fr.refl w).drewN _).drew)) HR.out).mono ?_;rintro e w1 ⟨rfl,hf1⟩;have HF1:=Lib.hid (((Fr.refl w).drewN _).drew.trans hf1);have g1:=(HS.out.keep HF1.out).c1;have z1:=(HS.out.keep HF1.out).fz 1;clear hf1)
  all_goals
   go_wp2_with fail
   go_ret
   have hx:=HS.out.move (n:=n) HF1.out
   exact OneP.err HTK.out he0 ⟨_,hx.1⟩ hx.2

theorem one_num (B k:Nat) (s:ByteArray) (v:Value) (ts:List Scn.Tok) (w:World) (h:Sc B s k v ts w) (hs:s.size≤65536) (hk:k<s.size) (h63:(ts.length+1)*40≤140737488355328) (q34:s[k]≠34) (qn:s[k]=45∨(48≤s[k].toNat∧s[k].toNat≤57)):
  Calls Tryz.prog 69 #[.pointer (some ⟨B,0,none⟩)] w (OneP B s k ts w):=by
 have hlt:=h.lt
 have c0:=h.c0
 have c1:=h.c1
 have f1:=h.fz 1
 have HS:=Lib.hid h
 clear h
 have hl:s.data.toList.length=s.size:=by simp
 have HL:=Lib.hid hl
 clear hl
 obtain ⟨c,hcc⟩:∃ c,s[k]=c:=⟨_,rfl⟩
 have hcd:=Lib.hid (getD_of hk hcc)
 have hll:Hid (k<s.data.toList.length):=by show _<_;rw [HL.out];exact hk
 have b2:(0:Int)≤(k:Int):=by omega
 have b4:(k:Int)<(s.size:Int):=by omega
 rw [hcc] at q34 qn
 have e34:((c.toNat:Int) == 34)=false:=u8q (d:=34) (by omega) q34
 have hf:(((c.toNat:Int) == 45)=true)∨(((c.toNat:Int) == 45)=false∧decide ((48:Int)≤(c.toNat:Int))=true∧decide ((c.toNat:Int)≤57)=true):=by
  by_cases h:c=45
  ·left;rw [h];rfl
  ·right
   have:=qn.resolve_left h
   exact ⟨u8q (d:=45) (by omega) h,decide_eq_true (by omega),decide_eq_true (by omega)⟩
 have ht0:=Scn.tokAt_num hll.out (by rw [hcd.out];exact qn)
 clear q34 qn
 rcases ht0 with ⟨x,n,hr,ht⟩ | ⟨x,hr,ht⟩
 ·have HR:=Lib.hid hr
  have HTK:=Lib.hid ht
  clear hr ht
  rcases hf with hf | ⟨hf,hf2,hf3⟩
  all_goals
   go_enter Tryz.func69,Tryz.ntmps69
   go_wp2_with fail
   go_quiet (fail)
   go_wp2_with fail
   go_region_with (go_at_call 90;refine (nread_tx s k _ x n 0 hs hk HR.out).mono ?_;rintro e w1 ⟨rfl,rfl⟩)
   all_goals
    go_wp2_with (go_at_call 89;refine (lay_at B k n 3 _ _ _ x s _ [] v ts _ (HS.out.keep (Fr.drew ((Fr.refl w).drewN _))) h63 (by rfl) (by rfl) (by rfl) (by rfl)).mono ?_;rintro e w3 ⟨rfl,hsc',hb3⟩;have HSC:=Lib.hid hsc';have HB3:=Lib.hid hb3;clear hsc' hb3)
    go_ret
    exact OneP.tok HTK.out HSC.out (Below.trans (Below.mono (Fr.drew ((Fr.refl w).drewN _)) (Nat.le_of_lt hlt)) HB3.out)
 ·have HR:=Lib.hid hr
  have HTK:=Lib.hid ht
  clear hr ht
  rcases hf with hf | ⟨hf,hf2,hf3⟩
  all_goals
   go_enter Tryz.func69,Tryz.ntmps69
   go_wp2_with fail
   go_quiet (fail)
   go_wp2_with fail
   go_region_with (go_at_call 90;refine (nread_tx s k _ x k 30 hs hk HR.out).mono ?_;rintro e w1 ⟨rfl,rfl⟩)
   all_goals
    go_wp2_with fail
    go_ret
    exact OneP.err (x:=30) HTK.out (by omega) ⟨_,HS.out.keep (Fr.drew ((Fr.refl w).drewN _))⟩ (Below.mono (Fr.drew ((Fr.refl w).drewN _)) (Nat.le_of_lt hlt))

/- The walk of the scanner's one: signs, words; whatever begins there. -/

theorem idx_at (c:UInt8) (z:Int) (w:World) (h:Lib.indexByte [123,125,91,93,58,44] c=z):
  Calls Tryz.prog 68 #[.string ⟨#[123,125,91,93,58,44]⟩,.int .u8 c.toNat] w fun e w'=>e=.returned (.int .i64 z)∧w=w':=by
 subst h
 refine (Tryz.strings_IndexByte ⟨#[123,125,91,93,58,44]⟩ (c.toNat:Int) w).mono ?_
 rintro e w' ⟨rfl,rfl⟩
 refine ⟨?_,rfl⟩
 have h2:((c.toNat:Int).toNat.toUInt8)=c:=by simp
 rw [h2]

theorem one_rest (B k:Nat) (s:ByteArray) (v:Value) (ts:List Scn.Tok) (w:World) (h:Sc B s k v ts w) (hs:s.size≤65536) (hk:k<s.size) (h63:(ts.length+1)*40≤140737488355328) (q34:s[k]≠34) (qn:¬ (s[k]=45∨(48≤s[k].toNat∧s[k].toNat≤57))):
  Calls Tryz.prog 69 #[.pointer (some ⟨B,0,none⟩)] w (OneP B s k ts w):=by
 have hlt:=h.lt
 have c0:=h.c0
 have c1:=h.c1
 have f1:=h.fz 1
 have HS:=Lib.hid h
 clear h
 have hl:s.data.toList.length=s.size:=by simp
 have HL:=Lib.hid hl
 clear hl
 obtain ⟨c,hcc⟩:∃ c,s[k]=c:=⟨_,rfl⟩
 have hcd:=Lib.hid (getD_of hk hcc)
 have hll:Hid (k<s.data.toList.length):=by show _<_;rw [HL.out];exact hk
 have b2:(0:Int)≤(k:Int):=by omega
 have b4:(k:Int)<(s.size:Int):=by omega
 rw [hcc] at q34 qn
 have e34:((c.toNat:Int) == 34)=false:=u8q (d:=34) (by omega) q34
 have e45:((c.toNat:Int) == 45)=false:=u8q (d:=45) (by omega) (fun h=>qn (.inl h))
 have Q34:Hid (s.data.toList.getD k 0≠34):=by show _≠_;rw [hcd.out];exact q34
 have QN:Hid (¬ (s.data.toList.getD k 0=45∨(48≤(s.data.toList.getD k 0).toNat∧(s.data.toList.getD k 0).toNat≤57))):=by show ¬ _;rw [hcd.out];exact qn
 have hr48:decide ((48:Int)≤(c.toNat:Int))=false∨(decide ((48:Int)≤(c.toNat:Int))=true∧decide ((c.toNat:Int)≤57)=false):=by
  rcases (by omega:c.toNat<48∨(48≤c.toNat∧57<c.toNat)) with h | h
  ·left;exact decide_eq_false (by omega)
  ·right;exact ⟨decide_eq_true (by omega),decide_eq_false (by omega)⟩
 clear q34 qn
 obtain ⟨z,hz⟩:∃ z,Lib.indexByte [123,125,91,93,58,44] c=z:=⟨_,rfl⟩
 have hm:=mark_idx c
 rw [hz] at hm
 have HZ:=Lib.hid hz
 clear hz
 by_cases qm:Scn.mark c=true
 ·have ht:=Scn.tokAt_mark (by rw [hcd.out];exact qm)
  rw [hcd.out] at ht
  have HTK:=Lib.hid ht
  have hx:Hid ((s.extract k (k+1)).data.toList=[c]):=by
   show _=_
   rw [extract_list,show k+1 - k=1 by omega,List.drop_eq_getElem_cons hll.out]
   simp only [List.take_succ_cons,List.take_zero]
   rw [← hcd.out,List.getD_eq_getElem?_getD,List.getElem?_eq_getElem hll.out];rfl
  have hx2:Hid (s.extract k (k+1)=⟨[c].toArray⟩):=bytes_eq (by rw [hx.out])
  have d0:decide (0≤z)=true:=by rw [← hm];exact qm
  clear ht hm qm
  have w2:IntKind.i64.wrap ((k:Int)+1)=(k:Int)+1:=by rw [IntKind.wrap_i64];omega
  have b5:(k:Int)≤(k:Int)+1:=by omega
  have b6:(k:Int)+1≤(s.size:Int):=by omega
  have b7:((k:Int)+1).toNat=k+1:=by omega
  rcases hr48 with hr48 | ⟨hr48,hr57⟩
  all_goals
   go_enter Tryz.func69,Tryz.ntmps69
   go_wp2_with fail
   go_quiet (fail)
   go_wp2_with (go_at_call 68;refine (idx_at c z _ HZ.out).mono ?_;rintro e w' ⟨rfl,rfl⟩)
   refine wp_region_tail 21 (by kernel_rfl) (by kernel_rfl) ?_
   simp only [List.take_succ_cons,List.take_zero,List.drop_succ_cons,List.drop_zero]
   repeat still_step
   refine wpStill_nil ?_
   go_wp2_with (go_at_call 89;refine (lay_at B k (k+1) 1 _ _ _ 0 s _ [c] v ts _ (HS.out.keep (Fr.drew ((Fr.refl w).drewN _))) h63 (by omega) (by rfl) (by rfl) hx2.out).mono ?_;rintro e w3 ⟨rfl,hsc',hb3⟩;have HSC:=Lib.hid hsc';have HB3:=Lib.hid hb3;clear hsc' hb3)
   go_ret
   exact OneP.tok HTK.out HSC.out (Below.trans (Below.mono (Fr.drew ((Fr.refl w).drewN _)) (Nat.le_of_lt hlt)) HB3.out)
 have HM:Hid (Scn.mark (s.data.toList.getD k 0)=false):=by show _=_;rw [hcd.out];simpa using qm
 have d0:decide (0≤z)=false:=by rw [← hm];simpa using qm
 clear hm qm
 rcases hr48 with hr48 | ⟨hr48,hr57⟩
 all_goals
  go_enter Tryz.func69,Tryz.ntmps69
  go_wp2_with fail
  go_quiet (fail)
  go_wp2_with (first
   | (go_at_call 68;refine (idx_at c z _ HZ.out).mono ?_;rintro e w' ⟨rfl,rfl⟩)
   | (go_at_call 91;refine (sword_is B k s v ts _ (HS.out.drewN _) hs hk h63).mono ?_;rintro e w3 ⟨b,rfl,hb3,hy,hn⟩;have HY:=Lib.hid hy;have HN:=Lib.hid hn;have HB:=Lib.hid hb3;clear hy hn hb3))
  ·rename_i hb
   obtain rfl:b=false:=by simpa using hb
   go_ret
   have hx:=HN.out rfl
   exact OneP.err (x:=40) (Scn.tokAt_none Q34.out QN.out HM.out hx.1) (by omega) ⟨_,hx.2⟩ (Below.trans (Below.mono ((Fr.refl w).drewN _) (Nat.le_of_lt hlt)) HB.out)
  ·rename_i hb
   obtain rfl:b=true:=by simpa using hb
   go_ret
   have hx:=HY.out rfl
   exact OneP.tok (Scn.tokAt_word Q34.out QN.out HM.out hx.1) hx.2 (Below.trans (Below.mono ((Fr.refl w).drewN _) (Nat.le_of_lt hlt)) HB.out)

theorem scone_is (B k:Nat) (s:ByteArray) (v:Value) (ts:List Scn.Tok) (w:World) (h:Sc B s k v ts w) (hs:s.size≤65536) (hk:k<s.size) (h63:(ts.length+1)*40≤140737488355328) (hT:LowTabs w):
  Calls Tryz.prog 69 #[.pointer (some ⟨B,0,none⟩)] w (OneP B s k ts w):=by
 by_cases q34:s[k]=34
 ·exact one_text B k s v ts w h hs hk h63 hT q34
 by_cases qn:s[k]=45∨(48≤s[k].toNat∧s[k].toNat≤57)
 ·exact one_num B k s v ts w h hs hk h63 q34 qn
 ·exact one_rest B k s v ts w h hs hk h63 q34 qn
/- The walk of scan.Tokens. -/

theorem white_idx (c:UInt8):Scn.white c=decide (0≤Lib.indexByte [32,9,10,13] c):=by
 have h:∀ n:Fin 256,Scn.white (UInt8.ofFin n)=decide (0≤Lib.indexByte [32,9,10,13] (UInt8.ofFin n)):=by decide +kernel
 exact h c.toFin
theorem idx_white (c:UInt8) (z:Int) (w:World) (h:Lib.indexByte [32,9,10,13] c=z):
  Calls Tryz.prog 68 #[.string ⟨#[32,9,10,13]⟩,.int .u8 c.toNat] w fun e w'=>e=.returned (.int .i64 z)∧w=w':=by
 subst h
 refine (Tryz.strings_IndexByte ⟨#[32,9,10,13]⟩ (c.toNat:Int) w).mono ?_
 rintro e w' ⟨rfl,rfl⟩
 refine ⟨?_,rfl⟩
 have h2:((c.toNat:Int).toNat.toUInt8)=c:=by simp
 rw [h2]

def TokP (s:ByteArray) (w:World) (e:Ending) (w':World):Prop:=
 ∃ v,e=.returned (.tuple #[v,.int .i64 ((Scn.tokens s.data.toList).2.1:Nat),.int .i64 ((Scn.tokens s.data.toList).2.2:Nat)])∧Tks w' w.heap.size v (Scn.tokens s.data.toList).1∧Fr w w'
theorem TokP.mk {s:ByteArray} {w w':World} {v:Value} {ts:List Scn.Tok} {p x:Nat} (hs:s.size≤65536) (h:Scn.tk s.data.toList 0=(ts,p,x)) (ht:Tks w' w.heap.size v ts) (hf:Fr w w'):
  TokP s w (.returned (.tuple #[v,.int .i64 (p:Nat),.int .i64 (x:Nat)])) w':=by
 have hl:s.data.toList.length=s.size:=by simp
 unfold TokP
 rw [Scn.tokens_short (by rw [hl];omega),h]
 exact ⟨v,rfl,ht,hf⟩
theorem tokens_in_long (s:ByteArray) (w:World) (h:65536<s.size) (hs:s.size≤9223372036854775807):Calls Tryz.prog 44 #[.string s] w (TokP s w):=by
 have hl:s.data.toList.length=s.size:=by simp
 have ht:=Lib.hid (Scn.tokens_long (l:=s.data.toList) (by rw [hl];omega))
 have d0:decide ((65536:Int)<(s.size:Int))=true:=decide_eq_true (by omega)
 clear hl h
 go_enter Tryz.func44,Tryz.ntmps44
 go_wp2_with fail
 go_ret3
 unfold TokP
 rw [ht.out]
 exact ⟨_,rfl,Tks.none_ _ _,Fr.refl _⟩

theorem tokens_in (s:ByteArray) (w:World) (hs:s.size≤65536) (hT:LowTabs w):Calls Tryz.prog 44 #[.string s] w (TokP s w):=by
 have HT:=Lib.hid hT
 clear hT
 have hl:s.data.toList.length=s.size:=by simp
 have HL:=Lib.hid hl
 clear hl
 have d0:decide ((65536:Int)<(s.size:Int))=false:=decide_eq_false (by omega)
 go_enter Tryz.func44,Tryz.ntmps44
 go_wp2_with fail
 go_loopg [] s.size (fun m wr=>∃ (i:Nat) (v:Value) (ts:List Scn.Tok),i≤s.size∧m=s.size - i∧Hid (Scn.TkInv s.data.toList i ts)∧Hid (Sc w.heap.size s i v ts wr)∧Hid (Fr w wr))
 case atStart=>
  refine ⟨0,.slice none 0 0,[],by omega,by omega,Lib.hid (Scn.TkInv.start _),Lib.hid ⟨by simp,?_,?_,?_,fun j=>by simp,Tks.none_ _ _⟩,Lib.hid ((Fr.refl w).alloc _)⟩
  ·rw [World.cell?_alloc_at _ _ _ _ rfl];rfl
  ·rw [World.cell?_alloc_at _ _ _ _ rfl];rfl
  ·rw [World.cell?_alloc_at _ _ _ _ rfl];rfl
 case round=>
  obtain ⟨i,v,ts,hi,rfl,hinv,hsc,hfr⟩:=hrel
  have c1:=hsc.out.c1
  have c2:=hsc.out.c2
  have f1:=hsc.out.fz 1
  by_cases hlt:i<s.size
  ·obtain ⟨c,hcc⟩:∃ c,s[i]=c:=⟨_,rfl⟩
   have hcd:=Lib.hid (getD_of hlt hcc)
   have hll:Hid (i<s.data.toList.length):=by show _<_;rw [HL.out];exact hlt
   have hlen:Hid ((ts.length+1)*40≤140737488355328):=by
    have:=hinv.out.len
    show _≤_
    omega
   have b2:(0:Int)≤(i:Int):=by omega
   have b4:(i:Int)<(s.size:Int):=by omega
   obtain ⟨z,hz⟩:∃ z,Lib.indexByte [32,9,10,13] c=z:=⟨_,rfl⟩
   have hm:=white_idx c
   rw [hz] at hm
   have HZ:=Lib.hid hz
   clear hz
   by_cases hw:Scn.white c=true
   ·have hnx:=Lib.hid (hinv.out.white hll.out (by rw [hcd.out];exact hw))
    have dz:decide (0≤z)=true:=by rw [← hm];exact hw
    clear hw hinv hm
    go_wp2_with (go_at_call 68;refine (idx_white c z _ HZ.out).mono ?_;rintro e w' ⟨rfl,rfl⟩)
    have hmv:=hsc.out.move (n:=i+1) (Fr.refl _)
    go_roundg (s.size - (i+1))
    case rel=>exact ⟨i+1,v,ts,by omega,rfl,hnx,Lib.hid hmv.1,Lib.hid (Below.trans hfr.out (Below.mono hmv.2 (Nat.le_refl _)))⟩
    case measure=>omega
   ·have hw2:Scn.white c=false:=by simpa using hw
    have dz:decide (0≤z)=false:=by rw [← hm];exact hw2
    have hwd:Hid (Scn.white (s.data.toList.getD i 0)=false):=by show _=_;rw [hcd.out];exact hw2
    clear hw hw2 hm
    rcases ht:Scn.tokAt s.data.toList i with ⟨x,p⟩ | ⟨t,n⟩
    ·have hr:=Lib.hid (hinv.out.err hll.out hwd.out ht)
     have HTK:=Lib.hid ht
     clear ht hinv
     go_wp2_with (first
      | (go_at_call 68;refine (idx_white c z _ HZ.out).mono ?_;rintro e w' ⟨rfl,rfl⟩)
      | (go_at_call 69;refine (scone_is w.heap.size i s v ts _ hsc.out hs hlt hlen.out (HT.out.keep hfr.out)).mono ?_;rintro e w3 hp;unfold OneP at hp;rw [HTK.out] at hp;obtain ⟨rfl,hx,⟨v',hs'⟩,hb⟩:=hp;have g1:=hs'.c1;have hxx:((x:Int) != 0)=true:=(by rw [bne_iff_ne];omega);have HS':=Lib.hid hs';have HB:=Lib.hid hb;clear hs' hb hx))
     go_quiet (fail)
     go_wp2_with fail
     go_ret3
     exact TokP.mk hs hr.out (Tks.none_ _ _) ((show Fr w _ from Below.trans hfr.out (Below.mono HB.out (Nat.le_refl _))).drewN _)
    ·have hnx:=Lib.hid (hinv.out.tok hll.out hwd.out ht)
     have HTK:=Lib.hid ht
     clear ht hinv
     go_wp2_with (first
      | (go_at_call 68;refine (idx_white c z _ HZ.out).mono ?_;rintro e w' ⟨rfl,rfl⟩)
      | (go_at_call 69;refine (scone_is w.heap.size i s v ts _ hsc.out hs hlt hlen.out (HT.out.keep hfr.out)).mono ?_;rintro e w3 hp;unfold OneP at hp;rw [HTK.out] at hp;obtain ⟨rfl,⟨v',hs'⟩,hb⟩:=hp;have HS':=Lib.hid hs';have HB:=Lib.hid hb;clear hs' hb))
     have hn:=hnx.out.1.hi
     rw [HL.out] at hn
     have hn2:=hnx.out.2
     go_roundg (s.size - n)
     case rel=>exact ⟨n,v',ts++[t],hn,rfl,Lib.hid hnx.out.1,HS',Lib.hid (Below.trans hfr.out (Below.mono HB.out (Nat.le_refl _)))⟩
     case measure=>omega
  ·have hr0:=Lib.hid (hinv.out.stop (by rw [HL.out];omega))
   obtain rfl:i=s.size:=by omega
   clear hinv
   go_wp2_with fail
   go_ret3
   exact TokP.mk hs hr0.out (hsc.out.tks.mono (Nat.le_succ _)) hfr.out
theorem stokens_is (s:ByteArray) (w:World) (hs:s.size≤9223372036854775807) (hT:LowTabs w):Calls Tryz.prog 44 #[.string s] w (TokP s w):=by
 by_cases h:s.size≤65536
 ·exact tokens_in s w h hT
 ·exact tokens_in_long s w (by omega) hs
/- Both Tokens, told of a text's tokens. -/

theorem tokens_at (s:ByteArray) (ts:List Scn.Tok) (p x:Nat) (w:World) (hs:s.size≤9223372036854775807) (hT:LowTabs w) (h:Scn.tokens s.data.toList=(ts,p,x)):
  Calls Tryz.prog 44 #[.string s] w fun e w'=>∃ v,e=.returned (.tuple #[v,.int .i64 (p:Nat),.int .i64 (x:Nat)])∧Tks w' w.heap.size v ts∧Fr w w':=by
 refine (stokens_is s w hs hT).mono ?_
 rintro e w' ⟨v,he,ht,hf⟩
 rw [h] at he ht
 exact ⟨v,he,ht,hf⟩
end Go.Proofs.YtdhakbghdcfncaaGreatDoor
