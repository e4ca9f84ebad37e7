/- The scanner's state; the walk of lay. -/
import Derived.Test.YtdhakbghdcfncaaGreatDoorPa
import Derived.Test.YtdhakbghdcfncaaGreatDoorKa
import Derived.Test.YtdhakbghdcfncaaGreatDoorRa
import Derived.Test.YtdhakbghdcfncaaGreatDoorSa
namespace Go.Proofs.YtdhakbghdcfncaaGreatDoor
set_option maxRecDepth 100000
set_option maxHeartbeats 4000000
set_option linter.unusedVariables false
set_option linter.unusedSimpArgs false
open Go.RowKit

structure Sc (B:Nat) (s:ByteArray) (k:Nat) (v:Value) (ts:List Scn.Tok) (w:World):Prop where
 lt:B<w.heap.size
 c0:w.cell? ⟨B,0,none⟩=some (.string s)
 c1:w.cell? ⟨B,1,none⟩=some (.int .i64 k)
 c2:w.cell? ⟨B,2,none⟩=some v
 fz:∀ j,w.frozen? ⟨B,j,none⟩=false
 tks:Tks w (B+1) v ts
theorem Sc.keep {B k:Nat} {s:ByteArray} {v:Value} {ts:List Scn.Tok} {w w':World} (h:Sc B s k v ts w) (hf:Fr w w'):Sc B s k v ts w':=
 ⟨Nat.lt_of_lt_of_le h.lt hf.size,by rw [hf.cell h.lt];exact h.c0,by rw [hf.cell h.lt];exact h.c1,by rw [hf.cell h.lt];exact h.c2,fun j=>by rw [hf.frozen h.lt];exact h.fz j,h.tks.keep hf⟩
theorem tks_below {B:Nat} {v x:Value} {ts:List Scn.Tok} {w:World} (h:Tks w (B+1) v ts) (j:Nat):Tks (w.setCell ⟨B,j,none⟩ x) (B+1) v ts:=by
 refine ⟨h.1,?_⟩
 rcases h.2 with hn | ⟨g,cap,cur,rfl,hb,hg,rest⟩
 ·exact .inl hn
 ·exact .inr ⟨g,cap,cur,rfl,hb,by rw [Below.heap_setCell _ _ _ _ (by simp;omega)];exact hg,rest⟩

theorem Sc.at_ {B k:Nat} {s:ByteArray} {v:Value} {ts:List Scn.Tok} {w w1 w2:World} (h:Sc B s k v ts w) (h1:Fr w w1) (hb:Below (B+1) w1 w2):
  w2.cell? ⟨B,0,none⟩=some (.string s)∧w2.cell? ⟨B,1,none⟩=some (.int .i64 k)∧w2.cell? ⟨B,2,none⟩=some v∧w2.frozen? ⟨B,0,none⟩=false∧w2.frozen? ⟨B,1,none⟩=false∧w2.frozen? ⟨B,2,none⟩=false∧B<w2.heap.size:=by
 have h2:=h.keep h1
 refine ⟨?_,?_,?_,?_,?_,?_,Nat.lt_of_lt_of_le h2.lt hb.size⟩
 ·rw [Below.cell hb (p:=⟨B,0,none⟩) (by simp)];exact h2.c0
 ·rw [Below.cell hb (p:=⟨B,1,none⟩) (by simp)];exact h2.c1
 ·rw [Below.cell hb (p:=⟨B,2,none⟩) (by simp)];exact h2.c2
 ·rw [Below.frozen hb (p:=⟨B,0,none⟩) (by simp)];exact h2.fz 0
 ·rw [Below.frozen hb (p:=⟨B,1,none⟩) (by simp)];exact h2.fz 1
 ·rw [Below.frozen hb (p:=⟨B,2,none⟩) (by simp)];exact h2.fz 2

theorem Sc.laid {B k n:Nat} {s:ByteArray} {v v':Value} {ts us:List Scn.Tok} {w w1 w2:World} (h:Sc B s k v ts w) (h1:Fr w w1) (hb:Below (B+1) w1 w2) (ht:Tks w2 (B+1) v' us):
  Sc B s n v' us ((w2.setCell ⟨B,2,none⟩ v').setCell ⟨B,1,none⟩ (.int .i64 n))∧Below B w ((w2.setCell ⟨B,2,none⟩ v').setCell ⟨B,1,none⟩ (.int .i64 n)):=by
 obtain ⟨g0,g1,g2,z0,z1,z2,hl⟩:=h.at_ h1 hb
 have hB:Below B w w2:=Below.trans (Below.mono h1 (Nat.le_of_lt h.lt)) (Below.mono hb (by omega))
 have e1:(w2.setCell ⟨B,2,none⟩ v').cell? ⟨B,1,none⟩=some (.int .i64 k):=by rw [World.cell?_setCell_other _ _ _ _ (by simp)];exact g1
 refine ⟨⟨by simpa using hl,?_,?_,?_,fun j=>?_,tks_below (tks_below ht 2) 1⟩,Below.setCell (Below.setCell hB (p:=⟨B,2,none⟩) (Nat.le_refl _) _) (p:=⟨B,1,none⟩) (Nat.le_refl _) _⟩
 ·rw [World.cell?_setCell_other _ _ _ _ (by simp),World.cell?_setCell_other _ _ _ _ (by simp)];exact g0
 ·rw [World.cell?_setCell_same _ _ _ e1]
 ·rw [World.cell?_setCell_other _ _ _ _ (by simp),World.cell?_setCell_same _ _ _ g2]
 ·rw [World.frozen?_setCell,World.frozen?_setCell,Below.frozen hb (p:=⟨B,j,none⟩) (by simp)];exact (h.keep h1).fz j

theorem lay_is (B k n kd a0:Nat) (m:Int) (s:ByteArray) (d:List UInt8) (v:Value) (ts:List Scn.Tok) (w:World) (h:Sc B s k v ts w) (h63:(ts.length+1)*40≤140737488355328):
  Calls Tryz.prog 89 #[.pointer (some ⟨B,0,none⟩),.agg #[.int .i64 kd,.int .i64 m,.string ⟨d.toArray⟩,.int .i64 a0],.int .i64 n] w
   fun e w'=>e=.returned (.tuple #[])∧(∃ v',Sc B s n v' (ts++[⟨kd,m,d,k⟩]) w')∧Below B w w':=by
 have hlt:=h.lt
 have c0:=h.c0
 have c1:=h.c1
 have c2:=h.c2
 have f0:=h.fz 0
 have f1:=h.fz 1
 have f2:=h.fz 2
 have HS:=Lib.hid h
 clear h
 go_enter Tryz.func89,Tryz.ntmps89
 go_wp2_with fail
 go_region_law ((refine step_tk (by rfl) (.tmp 15) (.tmp 17) (by rfl) (B+1) (by simp;omega) v ts (by rfl) (HS.out.tks.keep ((Fr.refl w).alloc _).drew) ⟨kd,m,d,k⟩ (by rfl) (by simp) (by rfl) h63 ?_;intro v' w2 ht hb;obtain ⟨g0,g1,g2,z0,z1,z2,hl2⟩:=HS.out.at_ ((Fr.refl w).alloc _).drew hb;obtain ⟨sb,sn,sc,rfl⟩:=ht.is_slice;have HT:=Lib.hid ht;have HB:=Lib.hid hb;clear ht hb))
 all_goals
  go_wp2_with fail
  go_end0
  have hx:=HS.out.laid (n:=n) ((Fr.refl w).alloc _).drew HB.out HT.out
  exact ⟨rfl,⟨_,hx.1⟩,hx.2⟩
theorem lay_at (B k:Nat) (n kd:Nat) (zn zk z0:Int) (m:Int) (s:ByteArray) (x:ByteArray) (d:List UInt8) (v:Value) (ts:List Scn.Tok) (w:World) (h:Sc B s k v ts w) (h63:(ts.length+1)*40≤140737488355328) (hn:zn=(n:Nat)) (hk:zk=(kd:Nat)) (h0:z0=0) (hx:x=⟨d.toArray⟩):
  Calls Tryz.prog 89 #[.pointer (some ⟨B,0,none⟩),.agg #[.int .i64 zk,.int .i64 m,.string x,.int .i64 z0],.int .i64 zn] w
   fun e w'=>e=.returned (.tuple #[])∧(∃ v',Sc B s n v' (ts++[⟨kd,m,d,k⟩]) w')∧Below B w w':=by
 subst hn;subst hk;subst h0;subst hx
 exact lay_is B k n kd 0 m s d v ts w h h63
theorem Sc.drewN {B k:Nat} {s:ByteArray} {v:Value} {ts:List Scn.Tok} {w:World} (h:Sc B s k v ts w) (n:Nat):Sc B s k v ts (w.drewN n):=h.keep ((Fr.refl w).drewN n)
/- Walks: scan.part, strings.HasPrefix, the scanner's word. -/

theorem part_is (c:UInt8) (b:Bool) (w:World) (hb:Scn.part c=b):
  Calls Tryz.prog 107 #[.int .u8 c.toNat] w fun e w'=>e=.returned (.bool b)∧w=w':=by
 subst hb
 obtain ⟨n,hn⟩:∃ n,c.toNat=n:=⟨_,rfl⟩
 have hy:=@part_yes c
 have hz:=@part_no c
 rw [hn] at hy hz ⊢
 obtain ⟨p,hp⟩:∃ p,Scn.part c=p:=⟨_,rfl⟩
 rw [hp] at hy hz ⊢
 clear hp hn
 by_cases hyes:97≤n∧n≤122∨65≤n∧n≤90∨48≤n∧n≤57∨n=95
 ·obtain rfl:=hy hyes
  clear hy hz
  rcases hyes with h | h | h | h
  all_goals
   first
   | (have q1:decide ((97:Int)≤(n:Int))=true:=decide_eq_true (by omega))
   | (have q1:decide ((97:Int)≤(n:Int))=false:=decide_eq_false (by omega))
   first
   | (have q2:decide ((n:Int)≤122)=true:=decide_eq_true (by omega))
   | (have q2:decide ((n:Int)≤122)=false:=decide_eq_false (by omega))
   first
   | (have q3:decide ((65:Int)≤(n:Int))=true:=decide_eq_true (by omega))
   | (have q3:decide ((65:Int)≤(n:Int))=false:=decide_eq_false (by omega))
   first
   | (have q4:decide ((n:Int)≤90)=true:=decide_eq_true (by omega))
   | (have q4:decide ((n:Int)≤90)=false:=decide_eq_false (by omega))
   first
   | (have q5:decide ((48:Int)≤(n:Int))=true:=decide_eq_true (by omega))
   | (have q5:decide ((48:Int)≤(n:Int))=false:=decide_eq_false (by omega))
   first
   | (have q6:decide ((n:Int)≤57)=true:=decide_eq_true (by omega))
   | (have q6:decide ((n:Int)≤57)=false:=decide_eq_false (by omega))
   first
   | (have q7:((n:Int) == 95)=true:=by rw [beq_iff_eq];omega)
   | (have q7:((n:Int) == 95)=false:=by rw [beq_eq_false_iff_ne];omega)
   clear h
   go_enter Tryz.func107,Tryz.ntmps107
   go_wp2_with fail
   go_ret
   exact ⟨rfl,rfl⟩
 ·obtain rfl:=hz hyes
  clear hy hz
  rcases (by omega:n<48∨(57<n∧n<65)∨(90<n∧n<97∧n≠95)∨122<n) with h | h | h | h
  all_goals
   clear hyes
   first
   | (have q1:decide ((97:Int)≤(n:Int))=true:=decide_eq_true (by omega))
   | (have q1:decide ((97:Int)≤(n:Int))=false:=decide_eq_false (by omega))
   first
   | (have q2:decide ((n:Int)≤122)=true:=decide_eq_true (by omega))
   | (have q2:decide ((n:Int)≤122)=false:=decide_eq_false (by omega))
   first
   | (have q3:decide ((65:Int)≤(n:Int))=true:=decide_eq_true (by omega))
   | (have q3:decide ((65:Int)≤(n:Int))=false:=decide_eq_false (by omega))
   first
   | (have q4:decide ((n:Int)≤90)=true:=decide_eq_true (by omega))
   | (have q4:decide ((n:Int)≤90)=false:=decide_eq_false (by omega))
   first
   | (have q5:decide ((48:Int)≤(n:Int))=true:=decide_eq_true (by omega))
   | (have q5:decide ((48:Int)≤(n:Int))=false:=decide_eq_false (by omega))
   first
   | (have q6:decide ((n:Int)≤57)=true:=decide_eq_true (by omega))
   | (have q6:decide ((n:Int)≤57)=false:=decide_eq_false (by omega))
   first
   | (have q7:((n:Int) == 95)=true:=by rw [beq_iff_eq];omega)
   | (have q7:((n:Int) == 95)=false:=by rw [beq_eq_false_iff_ne];omega)
   clear h
   go_enter Tryz.func107,Tryz.ntmps107
   go_wp2_with fail
   go_ret
   exact ⟨rfl,rfl⟩

theorem take_list (a:ByteArray) (n:Nat):(a.extract 0 n).data.toList=a.data.toList.take n:=by rw [extract_list];simp
theorem prefix_lite (a p:ByteArray) (b:Bool) (w:World) (ha:a.size≤maxLen) (hb:decide (a.data.toList.take p.size=p.data.toList)=b):
  Calls Tryz.prog 79 #[.string a,.string p] w fun e w'=>e=.returned (.bool b)∧w=w':=by
 unfold maxLen at ha
 by_cases h1:p.size≤a.size
 ·have d1:decide ((p.size:Int)≤(a.size:Int))=true:=decide_eq_true (by omega)
  have d2:decide (a.size<p.size)=false:=decide_eq_false (by omega)
  by_cases h2:a.extract 0 p.size=p
  ·have q:=bl_eq h2
   obtain rfl:b=true:=by rw [← hb];exact decide_eq_true (by rw [← take_list,h2])
   clear h2 hb
   go_enter Tryz.func79,Tryz.ntmps79
   go_wp2_with fail
   go_ret
   exact ⟨rfl,rfl⟩
  ·have q:=bl_ne h2
   obtain rfl:b=false:=by rw [← hb];exact decide_eq_false (fun h=>h2 (bytes_eq (by rw [take_list,h])))
   clear h2 hb
   go_enter Tryz.func79,Tryz.ntmps79
   go_wp2_with fail
   go_ret
   exact ⟨rfl,rfl⟩
 ·have d1:decide ((p.size:Int)≤(a.size:Int))=false:=decide_eq_false (by omega)
  obtain rfl:b=false:=by
   rw [← hb];refine decide_eq_false (fun h=>h1 ?_)
   have:=congrArg List.length h
   simp at this
   omega
  clear hb
  go_enter Tryz.func79,Tryz.ntmps79
  go_wp2_with fail
  go_ret
  exact ⟨rfl,rfl⟩
theorem prefix_is (a p:ByteArray) (b:Bool) (w:World) (ha:a.size≤maxLen) (hb:decide (a.data.toList.take p.size=p.data.toList)=b):
  Calls Tryz.prog 106 #[.string a,.string p] w fun e w'=>e=.returned (.bool b)∧w=w':=by
 go_enter Tryz.func106,Tryz.ntmps106
 go_wp2_with (go_at_call 79;refine (prefix_lite a p b _ ha hb).mono ?_;rintro e w' ⟨rfl,rfl⟩)
 go_ret
 exact ⟨rfl,rfl⟩

theorem pre_hp (s:ByteArray) (k n:Nat) (W:List UInt8) (hn:n=W.length) (hk:k≤s.size):
  ((s.data.toList.drop k).take n≠W∧Scn.pre W (s.data.toList.drop k)=false) ∨
  ((s.data.toList.drop k).take n=W∧k+n≤s.size∧k+n=s.size∧Scn.pre W (s.data.toList.drop k)=true) ∨
  ((s.data.toList.drop k).take n=W ∧ ∃ (h:k+n<s.size) (c:UInt8),s[k+n]=c∧Scn.pre W (s.data.toList.drop k) = !Scn.part c):=by
 subst hn
 have hx:=extract_list s k (k+W.length)
 rw [show k+W.length - k=W.length by omega] at hx
 rcases pre_cases s k W hk with ⟨h1,h2⟩ | ⟨h1,h2,h4⟩ | ⟨h1,h2,h4,h5⟩ | ⟨h2,h1,c,h4,h5⟩
 ·left
  refine ⟨fun h=>?_,h2⟩
  have:=congrArg List.length h
  simp at this
  omega
 ·left
  exact ⟨fun h=>h2 (bytes_eq (by rw [hx,h])),h4⟩
 ·right;left
  exact ⟨by rw [← hx,h2],h1,h4.symm,h5⟩
 ·right;right
  exact ⟨by rw [← hx,h2],h1,c,h4,h5⟩
/- The walk of the scanner's word. -/

theorem sword_is (B k:Nat) (s:ByteArray) (v:Value) (ts:List Scn.Tok) (w:World) (h:Sc B s k v ts w) (hs:s.size≤65536) (hk:k<s.size) (h63:(ts.length+1)*40≤140737488355328):
  Calls Tryz.prog 91 #[.pointer (some ⟨B,0,none⟩)] w fun e w'=>∃ b,e=.returned (.bool b)∧Below B w w' ∧
   (b=true→Scn.wordLen (s.data.toList.drop k)≠0 ∧ ∃ v',Sc B s (k+Scn.wordLen (s.data.toList.drop k)) v' (ts++[⟨2,0,(s.data.toList.drop k).take (Scn.wordLen (s.data.toList.drop k)),k⟩]) w') ∧
   (b=false→Scn.wordLen (s.data.toList.drop k)=0∧Sc B s k v ts w'):=by
 have hlt:=h.lt
 have HS:=Lib.hid h
 clear h
 go_enter Tryz.func91,Tryz.ntmps91
 go_wp2_with fail
 go_loopw [8] (fun j wr=>∃ i:Nat,i≤3∧j=.int .i64 i∧Hid (∀ q,q<3→wr.cell? ⟨w.heap.size,q,none⟩=some (.string (wdV q)))∧Hid (Fr w wr)∧Hid (∀ q,q<i→Scn.pre (wdAt q) (s.data.toList.drop k)=false)) (fun j _=>3 - (intOf j).toNat)
 case atStart=>
  refine ⟨0,by omega,rfl,Lib.hid ?_,Lib.hid ((Fr.refl _).alloc _),Lib.hid (fun q hq=>absurd hq (by omega))⟩
  intro q hq
  rw [World.cell?_alloc_at _ _ _ _ rfl]
  rcases (by omega:q=0∨q=1∨q=2) with rfl | rfl | rfl <;> rfl
 case round=>
  obtain ⟨i,hi,rfl,hc,hfr,hno⟩:=hrel
  by_cases h3:i<3
  ·have hcell:=hc.out i h3
   have h3':(i:Int)<3:=by omega
   have h30:(0:Int)≤(i:Int):=by omega
   obtain ⟨n,hn⟩:∃ n,(wdV i).size=n:=⟨_,rfl⟩
   have hnl:=wdV_size i
   rw [hn] at hnl
   have hnb:=wd_len i
   rw [← hnl] at hnb
   have hp:=pre_hp s k n (wdAt i) hnl (by omega)
   have HSr:=Lib.hid (HS.out.keep hfr.out)
   have c0:=HSr.out.c0
   have c1:=HSr.out.c1
   have hpx:(wdV i).data.toList=wdAt i:=rfl
   have hxl:(s.extract k s.size).data.toList=s.data.toList.drop k:=by rw [extract_list,List.take_of_length_le (by simp)]
   have hxs:Hid ((s.extract k s.size).size≤maxLen):=by show _≤_;unfold maxLen;simp;omega
   obtain ⟨W,hW⟩:∃ W,wdV i=W:=⟨_,rfl⟩
   rw [hW] at hcell hn hpx
   have hnext:Scn.pre (wdAt i) (s.data.toList.drop k)=false→Hid (∀ q,q<i+1→Scn.pre (wdAt q) (s.data.toList.drop k)=false):=by
    intro h2 q hq
    by_cases hqi:q<i
    ·exact hno.out q hqi
    ·obtain rfl:q=i:=by omega
     exact h2
   have hfin:Scn.pre (wdAt i) (s.data.toList.drop k)=true→Hid (Scn.wordLen (s.data.toList.drop k)=n):=by
    intro h2
    show _=_
    rw [word_at h3 hno.out h2,hnl]
   have hyes:(s.data.toList.drop k).take n=wdAt i→Hid (decide ((s.extract k s.size).data.toList.take W.size=W.data.toList)=true):=by
    intro h2;show _=_;refine decide_eq_true ?_;rw [hxl,hn,hpx,h2]
   have hnot:(s.data.toList.drop k).take n≠wdAt i→Hid (decide ((s.extract k s.size).data.toList.take W.size=W.data.toList)=false):=by
    intro h2;show _=_;refine decide_eq_false ?_;rw [hxl,hn,hpx];exact h2
   have hWd:(s.data.toList.drop k).take n=wdAt i→W=⟨((s.data.toList.drop k).take n).toArray⟩:=by
    intro h2;apply bytes_eq;rw [hpx,h2]
   clear hxl hpx hW hnl
   have w2:IntKind.i64.wrap ((k:Int)+(n:Int))=(k:Int)+(n:Int):=by rw [IntKind.wrap_i64];omega
   have b1:(k:Int)≤(s.size:Int):=by omega
   have b2:(0:Int)≤(k:Int):=by omega
   rcases hp with ⟨h1,h2⟩ | ⟨h1,h2,h4,h5⟩ | ⟨h1,h2,c,h4,h5⟩
   ·have HP:=hnot h1
    have hno':=hnext h2
    clear h1 h2 hnext hfin hyes hnot hWd
    go_wp2_with fail
    go_quiet ((go_at_call 106;exact Calls.quiet_of_same ((prefix_is (s.extract k s.size) W false _ hxs.out HP.out).mono fun _ _ h=>⟨h.1,h.2.symm⟩)))
    go_wp2_with fail
    exact ⟨⟨i+1,by omega,by go_num,Lib.hid (fun q hq=>hc.out q hq),Lib.hid (hfr.out.drewN _),hno'⟩,by simp [intOf];omega⟩
   ·have HP:=hyes h1
    have hr:=hfin h5
    have hwd:=Lib.hid (hWd h1)
    have q3:((k:Int)+(n:Int) == (s.size:Int))=true:=by rw [beq_iff_eq];omega
    clear h1 h2 h4 h5 hnext hfin hyes hnot hWd
    go_wp2_with fail
    go_quiet ((go_at_call 106;exact Calls.quiet_of_same ((prefix_is (s.extract k s.size) W true _ hxs.out HP.out).mono fun _ _ h=>⟨h.1,h.2.symm⟩)))
    go_wp2_with (go_at_call 89;refine (lay_at B k (k+n) 2 _ _ _ 0 s _ ((s.data.toList.drop k).take n) v ts _ (HSr.out.drewN _) h63 (by omega) (by rfl) (by rfl) hwd.out).mono ?_;rintro e w3 ⟨rfl,⟨v',hsc'⟩,hb3⟩;have HSC:=Lib.hid hsc';have HB3:=Lib.hid hb3;clear hsc' hb3)
    go_ret
    refine ⟨true,rfl,Below.trans (Below.mono (hfr.out.drewN _) (Nat.le_of_lt hlt)) HB3.out,fun _=>⟨by rw [hr.out];omega,v',?_⟩,fun h=>by cases h⟩
    rw [hr.out];exact HSC.out
   ·have HP:=hyes h1
    have hwd:=Lib.hid (hWd h1)
    have q3:((k:Int)+(n:Int) == (s.size:Int))=false:=by rw [beq_eq_false_iff_ne];omega
    have q4:decide (s.size≤k+n)=false:=decide_eq_false (by omega)
    have b3:(0:Int)≤(k:Int)+(n:Int):=by omega
    have b4:(k:Int)+(n:Int)<(s.size:Int):=by omega
    obtain ⟨b,hb⟩:∃ b,Scn.part c=b:=⟨_,rfl⟩
    rw [hb] at h5
    have HBP:=Lib.hid hb
    clear h1 hb hyes hnot hWd
    rcases b with _ | _
    ·have hr:=hfin h5
     clear hnext hfin h5
     go_wp2_with fail
     go_quiet ((first
      | (go_at_call 106;exact Calls.quiet_of_same ((prefix_is (s.extract k s.size) W true _ hxs.out HP.out).mono fun _ _ h=>⟨h.1,h.2.symm⟩))
      | (go_at_call 107;exact Calls.quiet_of_same ((part_is c false _ HBP.out).mono fun _ _ h=>⟨h.1,h.2.symm⟩))))
     go_wp2_with (go_at_call 89;refine (lay_at B k (k+n) 2 _ _ _ 0 s _ ((s.data.toList.drop k).take n) v ts _ (HSr.out.drewN _) h63 (by omega) (by rfl) (by rfl) hwd.out).mono ?_;rintro e w3 ⟨rfl,⟨v',hsc'⟩,hb3⟩;have HSC:=Lib.hid hsc';have HB3:=Lib.hid hb3;clear hsc' hb3)
     go_ret
     refine ⟨true,rfl,Below.trans (Below.mono (hfr.out.drewN _) (Nat.le_of_lt hlt)) HB3.out,fun _=>⟨by rw [hr.out];omega,v',?_⟩,fun h=>by cases h⟩
     rw [hr.out];exact HSC.out
    ·have hno':=hnext h5
     clear hnext hfin h5
     go_wp2_with fail
     go_quiet ((first
      | (go_at_call 106;exact Calls.quiet_of_same ((prefix_is (s.extract k s.size) W true _ hxs.out HP.out).mono fun _ _ h=>⟨h.1,h.2.symm⟩))
      | (go_at_call 107;exact Calls.quiet_of_same ((part_is c true _ HBP.out).mono fun _ _ h=>⟨h.1,h.2.symm⟩))))
     go_wp2_with fail
     exact ⟨⟨i+1,by omega,by go_num,Lib.hid (fun q hq=>hc.out q hq),Lib.hid (hfr.out.drewN _),hno'⟩,by simp [intOf];omega⟩
  ·obtain rfl:i=3:=by omega
   have hr:=Lib.hid (word_none hno.out)
   go_wp2_with fail
   go_ret
   exact ⟨false,rfl,Below.mono hfr.out (Nat.le_of_lt hlt),(fun h=>nomatch h),fun _=>⟨hr.out,HS.out.keep hfr.out⟩⟩
end Go.Proofs.YtdhakbghdcfncaaGreatDoor
