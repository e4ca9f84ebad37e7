/- The walk of the document's Tokens. -/
import Derived.Test.YtockgemmkjdnkaaGreatDoorSa
import Derived.Test.YtockgemmkjdnkaaGreatDoorPa
import Derived.Test.YtockgemmkjdnkaaGreatDoorNb
set_option maxRecDepth 100000
set_option maxHeartbeats 4000000
set_option linter.unusedVariables false
set_option linter.unusedSimpArgs false
namespace Go.Proofs.YtockgemmkjdnkaaGreatDoor
open Go.RowKit

theorem rtread_tx (s:ByteArray) (i:Nat) (w:World) (d:List UInt8) (n e:Nat) (hs:s.size<=65536) (hi:i<s.size) (hT:PtTab w) (hr:Chr.read s.data.toList i=(d,(n:Int),(e:Int))):
  Calls Tryz.prog 70 #[.string s,.int .i64 i] w λx w'=>x=.returned (.tuple #[.string ⟨d.toArray⟩,.int .i64 n,.int .i64 e])/\Fr w w':=by
 refine (rtread_is s i w (by omega) (by omega) (by omega) hT).mono ?_;rintro x w' ⟨rfl,hf⟩;exact ⟨by rw [hr];rfl,hf⟩
theorem rread_tx (s:ByteArray) (i:Nat) (w:World) (v:Int) (n e:Nat) (hs:s.size<=65536) (hi:i<s.size) (hr:Nm.readNum s.data.toList i=(v,(n:Int),(e:Int))):
  Calls Tryz.prog 71 #[.string s,.int .i64 i] w λx w'=>x=.returned (.tuple #[.int .i64 v,.int .i64 n,.int .i64 e])/\w=w':=by
 refine (rread_any s i w (by unfold maxLen;omega) (by omega) (by omega)).mono ?_;rintro x w' ⟨rfl,hf⟩;exact ⟨by rw [hr];rfl,hf⟩
theorem rword_tx (s:ByteArray) (k n:Nat) (w:World) (hs:s.size<=65536) (hk:k<s.size) (hn:Scn.wordLen (s.data.toList.drop k)=n):
  Calls Tryz.prog 72 #[.string s,.int .i64 k] w λe w'=>e=.returned (.int .i64 n)/\Fr w w':=by
 subst hn;exact rword_is s k w (by unfold maxLen;omega) (by omega)
theorem rwhite_tx (c:UInt8) (b:Bool) (w:World) (h:Scn.white c=b):
  Calls Tryz.prog 69 #[.int .u8 c.toNat] w λe w'=>e=.returned (.bool b)/\w=w':=by
 subst h;exact rwhite_is c w
theorem fr_box {w wr w1:World} {o:Obj} (h:Fr w wr) (h1:Fr (wr.alloc o) w1) (j:Nat) (u:Value):Fr w (w1.setCell ⟨wr.heap.size,j,none⟩ u):=((h.alloc o).trans h1).setCell h.size u
theorem tks_box {wr w1:World} {o:Obj} {b:Nat} {v:Value} {ts:List Scn.Tok} (h:Tks wr b v ts) (h1:Fr (wr.alloc o) w1) (j:Nat) (u:Value):Tks (w1.setCell ⟨wr.heap.size,j,none⟩ u) b v ts:=
 h.keep ((((FR wr).alloc o).trans h1).setCell (lR _) u)
theorem box_frozen {wr w1:World} {cs:Array Value} {e:TypeId} (h1:Fr (wr.alloc (.cells cs e)) w1) (j:Nat):w1.frozen? ⟨wr.heap.size,j,none⟩=false:=by
 rw [h1.frozen (by simp)];simp

theorem box_two {wr w1 w2:World} {a b c d u:Value} {e:TypeId} (h1:Fr (wr.alloc (.cells #[a,b,c,d] e)) w1) (h2:Fr (w1.setCell ⟨wr.heap.size,0,none⟩ u) w2):
  w2.frozen? ⟨wr.heap.size,2,none⟩=false/\w2.cell? ⟨wr.heap.size,0,none⟩=some u/\w2.cell? ⟨wr.heap.size,1,none⟩=some b/\w2.cell? ⟨wr.heap.size,2,none⟩=some c/\w2.cell? ⟨wr.heap.size,3,none⟩=some d:=by
 have hs:wr.heap.size<(w1.setCell ⟨wr.heap.size,0,none⟩ u).heap.size:=by have:=h1.size;simp at this ⊢;omega
 have hc:∀ j,w1.cell? ⟨wr.heap.size,j,none⟩=#[a,b,c,d][j]?:=λj=>by
  rw [h1.cell (by simp),World.cell?_alloc_at _ _ _ _ rfl]
 have e0:w1.cell? ⟨wr.heap.size,0,none⟩=some a:=hc 0;refine ⟨?_,?_,?_,?_,?_⟩
 ·rw [h2.frozen hs,World.frozen?_setCell];exact box_frozen h1 2
 ·rw [h2.cell hs,World.cell?_setCell_same _ _ _ e0]
 ·rw [h2.cell hs,World.cell?_setCell_other _ _ _ _ (by simp),hc];rfl
 ·rw [h2.cell hs,World.cell?_setCell_other _ _ _ _ (by simp),hc];rfl
 ·rw [h2.cell hs,World.cell?_setCell_other _ _ _ _ (by simp),hc];rfl
theorem fr_box2 {w wr w1 w2:World} {o:Obj} {u:Value} (h:Fr w wr) (h1:Fr (wr.alloc o) w1) (h2:Fr (w1.setCell ⟨wr.heap.size,0,none⟩ u) w2) (j:Nat) (v:Value):Fr w (w2.setCell ⟨wr.heap.size,j,none⟩ v):=
 ((fr_box h h1 0 u).trans h2).setCell h.size v
theorem tks_box2 {wr w1 w2:World} {o:Obj} {u:Value} {b:Nat} {v:Value} {ts:List Scn.Tok} (h:Tks wr b v ts) (h1:Fr (wr.alloc o) w1) (h2:Fr (w1.setCell ⟨wr.heap.size,0,none⟩ u) w2) (j:Nat) (x:Value):Tks (w2.setCell ⟨wr.heap.size,j,none⟩ x) b v ts:=
 h.keep (fr_box2 (FR wr) h1 h2 j x)

theorem rtokens_in (s:ByteArray) (w:World) (hs:s.size<=65536) (hT:PtTab w):
  Calls Tryz.prog 52 #[.string s] w λe w'=>∃ v,e=.returned (.tuple #[v,.int .i64 ((Scn.tk s.data.toList 0).2.1:Nat),.int .i64 ((Scn.tk s.data.toList 0).2.2:Nat)])/\Tks w' w.heap.size v (Scn.tk s.data.toList 0).1/\Fr w w':=by
 have HT:=LH hT;clear hT;have hsm:Hid (s.size<=maxLen):=by show _<=_;unfold maxLen;omega
 have hl:s.data.toList.length=s.size:=by simp
 have HL:=LH hl;clear hl;have d0:decide ((65536:Int)<(s.size:Int))=false:=dF (by omega);go_enter Tryz.func52,Tryz.ntmps52
 go_wp2_with fail
 go_loopw [5,6] (λv j wr=>∃ (i:Nat) (ts:List Scn.Tok),i<=s.size/\j=.int .i64 i/\Hid (Scn.TkInv s.data.toList i ts)/\Hid (Tks wr w.heap.size v ts)/\Hid (Fr w wr)) (λ_ j _=>s.size - (intOf j).toNat)
 case atStart=>exact ⟨0,[],by omega,rfl,LH (Scn.TkInv.start _),LH (Tks.none_ _ _),LH (FR _)⟩
 case round=>
  obtain ⟨i,ts,hi,rfl,hinv,hts,hfr⟩:=hrel;by_cases hlt:i<s.size
  ·obtain ⟨c,hcc⟩:∃ c,s[i]=c:=⟨_,rfl⟩;have hcd:=LH (getD_of hlt hcc);have hll:Hid (i<s.data.toList.length):=by show _<_;rw [HL.out];exact hlt
   have hlen:Hid ((ts.length+1)*40<=140737488355328):=by
    have:=hinv.out.len;show _<=_;omega
   by_cases hw:Scn.white c=true
   ·have hnx:=LH (hinv.out.white hll.out (by rw [hcd.out];exact hw));have HW:=LH hw;clear hw hinv;go_wp2_with (go_at_call 69;refine (rwhite_tx c true _ HW.out).mono ?_;rintro e w' ⟨rfl,rfl⟩)
    exact ⟨⟨i+1,ts,by omega,by go_num,hnx,hts,hfr⟩,by simp [intOf];omega⟩
   have hw2:Scn.white c=false:=by simpa using hw
   have HW:=LH hw2;clear hw2 hw;have hwd:Hid (Scn.white (s.data.toList.getD i 0)=false):=by show _=_;rw [hcd.out];exact HW.out
   by_cases q34:c=34
   ·have e34:((c.toNat:Int) == 34)=true:=by rw [q34];rfl
    have Q34:=LH q34;clear q34;rcases Scn.tokAt_text hll.out (by rw [hcd.out];exact Q34.out) with ⟨d,n,hr,ht⟩ | ⟨n,e,he,hn,hr,ht⟩
    ·have hnx:=LH (hinv.out.tok hll.out hwd.out ht);have HR:=LH hr;clear hr ht hinv;go_wp2_with (first
      | (go_at_call 69;refine (rwhite_tx c false _ HW.out).mono ?_;rintro e w' ⟨rfl,rfl⟩)
      | (go_at_call 70;refine (rtread_tx s i _ _ n 0 hs hlt (HT.out.keep (hfr.out.alloc _)) HR.out).mono ?_;rintro e w1 ⟨rfl,hf1⟩;have hz1:=box_frozen hf1 2;have hc1:=hf1.cells;have HF1:=LH hf1;clear hf1)
      | (at_builtin;refine wpl_tk rfl (.tmp 108) (.tmp 110) rfl w (fr_box hfr.out HF1.out 2 _) _ ts rfl (tks_box hts.out HF1.out 2 _) ⟨4,0,d,i⟩ rfl (by simp) rfl hlen.out ?_;intro v' w2 hts2 hfr2;have HTS:=LH hts2;have HFR:=LH hfr2;clear hts2 hfr2))
     exact ⟨⟨n,ts++[_],by have:=hnx.out.1.hi;rw [HL.out] at this;exact this,by (first | rfl | go_num),LH hnx.out.1,HTS,HFR⟩,by have:=hnx.out.2;have:=hnx.out.1.hi;rw [HL.out] at this;simp [intOf];omega⟩
    ·have hr0:=LH (hinv.out.err hll.out hwd.out ht);have HR:=LH hr;have hne:((e:Int) != 0)=true:=by rw [bne_iff_ne];omega
     clear hr ht hinv he;go_wp2_with (first
      | (go_at_call 69;refine (rwhite_tx c false _ HW.out).mono ?_;rintro e w' ⟨rfl,rfl⟩)
      | (go_at_call 70;refine (rtread_tx s i _ _ n e hs hlt (HT.out.keep (hfr.out.alloc _)) HR.out).mono ?_;rintro e w1 ⟨rfl,hf1⟩;have hz1:=box_frozen hf1 2;have hc1:=hf1.cells;have HF1:=LH hf1;clear hf1))
     go_ret3
     exact ⟨_,by rw [hr0.out];rfl,by rw [hr0.out];exact Tks.none_ _ _,fr_box hfr.out HF1.out 2 _⟩
   have e34:((c.toNat:Int) == 34)=false:=u8q (d:=34) (by omega) q34;by_cases qn:c=45\/(48<=c.toNat/\c.toNat<=57)
   ·have Q34:=LH q34;have hf:(((c.toNat:Int) == 45)=true)\/(((c.toNat:Int) == 45)=false/\decide ((48:Int)<=(c.toNat:Int))=true/\decide ((c.toNat:Int)<=57)=true):=by
     by_cases h:c=45
     ·left;rw [h];rfl
     ·right;have:=qn.resolve_left h;exact ⟨u8q (d:=45) (by omega) h,dT (by omega),dT (by omega)⟩
    have ht0:=Scn.tokAt_num hll.out (by rw [hcd.out];exact qn);clear q34 qn;rcases ht0 with ⟨v,n,hr,ht⟩ | ⟨v,hr,ht⟩
    ·have hnx:=LH (hinv.out.tok hll.out hwd.out ht);have HR:=LH hr;clear hr ht hinv;rcases hf with hf | ⟨hf,hf2,hf3⟩;all_goals
      go_wp2_with (first
       | (go_at_call 69;refine (rwhite_tx c false _ HW.out).mono ?_;rintro e w' ⟨rfl,rfl⟩)
       | (go_at_call 71;refine (rread_tx s i _ v n 0 hs hlt HR.out).mono ?_;rintro e w1 ⟨rfl,rfl⟩)
       | (at_builtin;refine wpl_tk rfl (.tmp 108) (.tmp 110) rfl w (hfr.out.alloc _) _ ts rfl (hts.out.keep ((FR _).alloc _)) ⟨3,v,[],i⟩ rfl (by simp) rfl hlen.out ?_;intro v' w2 hts2 hfr2;have HTS:=LH hts2;have HFR:=LH hfr2;clear hts2 hfr2))
      exact ⟨⟨n,ts++[_],by have:=hnx.out.1.hi;rw [HL.out] at this;exact this,by (first | rfl | go_num),LH hnx.out.1,HTS,HFR⟩,by have:=hnx.out.2;have:=hnx.out.1.hi;rw [HL.out] at this;simp [intOf];omega⟩
    ·have hr0:=LH (hinv.out.err hll.out hwd.out ht);have HR:=LH hr;clear hr ht hinv;rcases hf with hf | ⟨hf,hf2,hf3⟩;all_goals
      go_wp2_with (first
       | (go_at_call 69;refine (rwhite_tx c false _ HW.out).mono ?_;rintro e w' ⟨rfl,rfl⟩)
       | (go_at_call 71;refine (rread_tx s i _ v i 30 hs hlt HR.out).mono ?_;rintro e w1 ⟨rfl,rfl⟩))
      go_ret3
      exact ⟨_,by rw [hr0.out];rfl,by rw [hr0.out];exact Tks.none_ _ _,hfr.out.alloc _⟩
   have e45:((c.toNat:Int) == 45)=false:=u8q (d:=45) (by omega) (λh=>qn (.inl h));have Q34:Hid (s.data.toList.getD i 0≠34):=by show _≠_;rw [hcd.out];exact q34
   have QN:Hid (¬ (s.data.toList.getD i 0=45\/(48<=(s.data.toList.getD i 0).toNat/\(s.data.toList.getD i 0).toNat<=57))):=by show ¬ _;rw [hcd.out];exact qn
   have hrange:c.toNat<48\/(48<=c.toNat/\57<c.toNat):=by omega
   clear q34 qn;by_cases qm:Scn.mark c=true
   ·have ht:=Scn.tokAt_mark (by rw [hcd.out];exact qm);rw [hcd.out] at ht;have hnx:=LH (hinv.out.tok hll.out hwd.out ht);have hx:Hid ((s.extract i (i+1)).data.toList=[c]):=by
     show _=_;rw [extract_list,show i+1 - i=1 by omega,List.drop_eq_getElem_cons hll.out];simp only [List.take_succ_cons,List.take_zero];rw [<- hcd.out,List.getD_eq_getElem?_getD,List.getElem?_eq_getElem hll.out];rfl
    have hx2:s.extract i (i+1)=⟨[c].toArray⟩:=bytes_eq (by rw [hx.out]);clear ht hinv hrange;rcases Scn.mark_cases qm with hc | hc | hc | hc | hc | hc;all_goals
     clear qm
     first
      | (have m123:((c.toNat:Int) == 123)=true:=by rw [hc];rfl)
      | (have m123:((c.toNat:Int) == 123)=false:=by rw [hc];rfl)
     first
      | (have m125:((c.toNat:Int) == 125)=true:=by rw [hc];rfl)
      | (have m125:((c.toNat:Int) == 125)=false:=by rw [hc];rfl)
     first
      | (have m91:((c.toNat:Int) == 91)=true:=by rw [hc];rfl)
      | (have m91:((c.toNat:Int) == 91)=false:=by rw [hc];rfl)
     first
      | (have m93:((c.toNat:Int) == 93)=true:=by rw [hc];rfl)
      | (have m93:((c.toNat:Int) == 93)=false:=by rw [hc];rfl)
     first
      | (have m58:((c.toNat:Int) == 58)=true:=by rw [hc];rfl)
      | (have m58:((c.toNat:Int) == 58)=false:=by rw [hc];rfl)
     first
      | (have m44:((c.toNat:Int) == 44)=true:=by rw [hc];rfl)
      | (have m44:((c.toNat:Int) == 44)=false:=by rw [hc];rfl)
     first
      | (have l48:decide ((48:Int)<=(c.toNat:Int))=true:=by rw [hc];rfl)
      | (have l48:decide ((48:Int)<=(c.toNat:Int))=false:=by rw [hc];rfl)
     have l57:decide ((c.toNat:Int)<=57)=decide ((c.toNat:Int)<=57):=rfl
     first
      | (have l57:decide ((c.toNat:Int)<=57)=true:=by rw [hc];rfl)
      | (have l57:decide ((c.toNat:Int)<=57)=false:=by rw [hc];rfl)
     have HC:=LH hc;clear hc;go_wp2_with (first
      | (go_at_call 69;refine (rwhite_tx c false _ HW.out).mono ?_;rintro e w' ⟨rfl,rfl⟩)
      | (at_builtin;refine wpl_tk rfl (.tmp 108) (.tmp 110) rfl w (hfr.out.alloc _) _ ts rfl (hts.out.keep ((FR _).alloc _)) ⟨1,0,[c],i⟩ rfl (by simp) rfl hlen.out ?_;intro v' w2 hts2 hfr2;have HTS:=LH hts2;have HFR:=LH hfr2;clear hts2 hfr2))
     exact ⟨⟨i+1,ts++[_],by have:=hnx.out.1.hi;rw [HL.out] at this;exact this,by (first | rfl | go_num),LH hnx.out.1,HTS,HFR⟩,by have:=hnx.out.2;have:=hnx.out.1.hi;rw [HL.out] at this;simp [intOf];omega⟩
   have qm2:Scn.mark c=false:=by simpa using qm
   have HM:Hid (Scn.mark (s.data.toList.getD i 0)=false):=by show _=_;rw [hcd.out];exact qm2
   have hm:∀ d:UInt8,Scn.mark d=true->c≠d:=λd hd h=>by rw [h,hd] at qm2;cases qm2
   have m123:((c.toNat:Int) == 123)=false:=u8q (d:=123) (by omega) (hm _ rfl);have m125:((c.toNat:Int) == 125)=false:=u8q (d:=125) (by omega) (hm _ rfl);have m91:((c.toNat:Int) == 91)=false:=u8q (d:=91) (by omega) (hm _ rfl);have m93:((c.toNat:Int) == 93)=false:=u8q (d:=93) (by omega) (hm _ rfl);have m58:((c.toNat:Int) == 58)=false:=u8q (d:=58) (by omega) (hm _ rfl);have m44:((c.toNat:Int) == 44)=false:=u8q (d:=44) (by omega) (hm _ rfl);clear qm qm2 hm;obtain ⟨n,hn⟩:∃ n,Scn.wordLen (s.data.toList.drop i)=n:=⟨_,rfl⟩;have hr48:decide ((48:Int)<=(c.toNat:Int))=false\/(decide ((48:Int)<=(c.toNat:Int))=true/\decide ((c.toNat:Int)<=57)=false):=by
    rcases hrange with h | h
    ·left;exact dF (by omega)
    ·right;exact ⟨dT (by omega),dF (by omega)⟩
   clear hrange;by_cases h0:n=0
   ·subst h0;have hr0:=LH (hinv.out.err hll.out hwd.out (Scn.tokAt_none Q34.out QN.out HM.out hn));have HN:=LH hn;clear hn hinv;rcases hr48 with hr48 | ⟨hr48,hr57⟩;all_goals
     go_wp2_with (first
      | (go_at_call 69;refine (rwhite_tx c false _ HW.out).mono ?_;rintro e w' ⟨rfl,rfl⟩)
      | (go_at_call 72;refine (rword_tx s i 0 _ hs hlt HN.out).mono ?_;rintro e w1 ⟨rfl,hf1⟩;have HF1:=LH hf1;clear hf1))
     go_ret3
     exact ⟨_,by rw [hr0.out];rfl,by rw [hr0.out];exact Tks.none_ _ _,(hfr.out.alloc _).trans HF1.out⟩
   ·have hwl:=Scn.wordLen_le (s.data.toList.drop i);rw [hn,List.length_drop,HL.out] at hwl;have hpos:decide ((0:Int)<(n:Int))=true:=dT (by omega);have ht:=Scn.tokAt_word Q34.out QN.out HM.out (by rw [hn];exact h0);rw [hn] at ht;have hnx:=LH (hinv.out.tok hll.out hwd.out ht);have hx:s.extract i (i+n)=⟨((s.data.toList.drop i).take n).toArray⟩:=bytes_eq (by rw [extract_list,show i+n - i=n by omega]);have HN:=LH hn;clear hn ht hinv;rcases hr48 with hr48 | ⟨hr48,hr57⟩;all_goals
     go_wp2_with (first
      | (go_at_call 69;refine (rwhite_tx c false _ HW.out).mono ?_;rintro e w' ⟨rfl,rfl⟩)
      | (go_at_call 72;have hm:=HF1.out;refine (rword_tx s i n _ hs hlt HN.out).mono ?_;rintro e w2 ⟨rfl,hf2⟩;have HF2:=LH hf2;obtain ⟨hz2,g0,g1,g2,g3⟩:=box_two hm hf2;clear hf2 hm)
      | (go_at_call 72;refine (rword_tx s i n _ hs hlt HN.out).mono ?_;rintro e w1 ⟨rfl,hf1⟩;have hz1:=box_frozen hf1 0;have hc1:=hf1.cells;have HF1:=LH hf1;clear hf1)
      | (at_builtin;refine wpl_tk rfl (.tmp 108) (.tmp 110) rfl w (fr_box2 hfr.out HF1.out HF2.out 2 _) _ ts rfl (tks_box2 hts.out HF1.out HF2.out 2 _) ⟨2,0,(s.data.toList.drop i).take n,i⟩ rfl (by simp) rfl hlen.out ?_;intro v' w2 hts2 hfr2;have HTS:=LH hts2;have HFR:=LH hfr2;clear hts2 hfr2))
     exact ⟨⟨i+n,ts++[_],by have:=hnx.out.1.hi;rw [HL.out] at this;exact this,by (first | rfl | go_num),LH hnx.out.1,HTS,HFR⟩,by have:=hnx.out.2;have:=hnx.out.1.hi;rw [HL.out] at this;simp [intOf];omega⟩
  ·have hr0:=LH (hinv.out.stop (by rw [HL.out];omega));obtain rfl:i=s.size:=by omega
   clear hinv;go_wp2_with fail
   go_ret3
   exact ⟨_,by rw [hr0.out];rfl,by rw [hr0.out];exact hts.out,hfr.out⟩
end Go.Proofs.YtockgemmkjdnkaaGreatDoor
