/- The walk of emit.right: what is not bare. -/
import Derived.Test.YtdhakbghdcfncaaGreatDoorEa
import Derived.Deep.RegionHeld3
namespace Go.Proofs.YtdhakbghdcfncaaGreatDoor
set_option maxRecDepth 100000
set_option maxHeartbeats 2000000
set_option linter.unusedVariables false
set_option linter.unusedSimpArgs false
open Go.RowKit

theorem right_bare (u:JV) (B:Option Addr) (d:Nat) (B':Option Addr) (d':Nat) (w:World) (h:InV w (Lo w.heap.size) u (vA u B d B' d')) (hk:1≤u.kd∧u.kd≤6) (hb:JV.bareB u=false):
  Calls Tryz.prog 65 #[vA u B d B' d'] w fun e w'=>e=.returned (.bool (JV.rightB u))∧Fr w w':=by
 obtain ⟨⟨hn1,hn2⟩,⟨hk1,hk2⟩,hs,hl,hm⟩:=h.facts
 obtain ⟨A,c,A',c',hx,hlc,hmc⟩:=h.open_
 obtain ⟨_,_,_,x3,x4⟩:=five hx
 simp only [Value.slice.injEq] at x3 x4
 obtain ⟨rfl,_,rfl⟩:=x3
 obtain ⟨rfl,_,rfl⟩:=x4
 clear hx
 have HR:=Lib.hid (right_eq u)
 have HM:=Lib.hid hmc
 clear hmc hlc h
 obtain ⟨K,hK⟩:∃ K,u.kd=K:=⟨_,rfl⟩
 obtain ⟨N,hN⟩:∃ N,u.nm=N:=⟨_,rfl⟩
 have hv:vA u B d B' d'=.agg #[.int .i64 K,.int .i64 N,.string ⟨u.tx.toArray⟩,.slice B u.ls.length d,.slice B' u.ms.length d']:=by rw [← hK,← hN];rfl
 have HK:=Lib.hid hK
 have HN:=Lib.hid hN
 have HV:=Lib.hid hv
 rw [hK] at hk
 obtain ⟨hk,hk6⟩:=hk
 have d1:decide (K<1)=false:=decide_eq_false (by omega)
 have d6:decide (6<K)=false:=decide_eq_false (by omega)
 have HBB:=Lib.hid hb
 have hr:Hid (JV.rightB u=false):=by show _=_;rw [HR.out,hb,Bool.and_false];rfl
 rw [hv]
 clear hb hv hK hN
 go_enter Tryz.func65,Tryz.ntmps65
 go_wp2_with fail
 first | (go_region_with (go_at_call 80;rw [← HV.out];refine (bare_at u B d B' d' _ false HBB.out).mono ?_;rintro e w1 ⟨rfl,hw1⟩;have hc1:=hw1.cells;have HW1:=Lib.hid hw1;clear hw1)) | fail "region"
 all_goals
  go_wp2_with fail
  go_ret
  exact ⟨by rw [hr.out];rfl,(((Fr.refl _).alloc _).drew).trans HW1.out⟩

/- The walk of emit.right: bad bytes. -/

theorem right_bad (u:JV) (B:Option Addr) (d:Nat) (B':Option Addr) (d':Nat) (w:World) (h:InV w (Lo w.heap.size) u (vA u B d B' d')) (hk:1≤u.kd∧u.kd≤6) (hb:JV.bareB u=true) (hq:Utf.bad u.tx≠u.tx.length):
  Calls Tryz.prog 65 #[vA u B d B' d'] w fun e w'=>e=.returned (.bool (JV.rightB u))∧Fr w w':=by
 obtain ⟨⟨hn1,hn2⟩,⟨hk1,hk2⟩,hs,hl,hm⟩:=h.facts
 obtain ⟨A,c,A',c',hx,hlc,hmc⟩:=h.open_
 obtain ⟨_,_,_,x3,x4⟩:=five hx
 simp only [Value.slice.injEq] at x3 x4
 obtain ⟨rfl,_,rfl⟩:=x3
 obtain ⟨rfl,_,rfl⟩:=x4
 clear hx
 have HR:=Lib.hid (right_eq u)
 have HM:=Lib.hid hmc
 clear hmc hlc h
 obtain ⟨K,hK⟩:∃ K,u.kd=K:=⟨_,rfl⟩
 obtain ⟨N,hN⟩:∃ N,u.nm=N:=⟨_,rfl⟩
 have hv:vA u B d B' d'=.agg #[.int .i64 K,.int .i64 N,.string ⟨u.tx.toArray⟩,.slice B u.ls.length d,.slice B' u.ms.length d']:=by rw [← hK,← hN];rfl
 have HK:=Lib.hid hK
 have HN:=Lib.hid hN
 have HV:=Lib.hid hv
 rw [hK] at hk
 obtain ⟨hk,hk6⟩:=hk
 have d1:decide (K<1)=false:=decide_eq_false (by omega)
 have d6:decide (6<K)=false:=decide_eq_false (by omega)
 have HBB:=Lib.hid hb
 have hbl:=Utf.bad_le u.tx
 obtain ⟨bd,hbd⟩:∃ bd,Utf.bad u.tx=bd:=⟨_,rfl⟩
 rw [hbd] at hbl
 have HB:=Lib.hid hbd
 have hr:Hid (JV.rightB u=false):=by
  show _=_
  have:(Utf.bad u.tx == u.tx.length)=false:=by rw [beq_eq_false_iff_ne];exact hq
  rw [HR.out,this];simp
 rw [hbd] at hq
 have hne:((bd:Int) != (u.tx.length:Int))=true:=by rw [bne_iff_ne];omega
 rw [hv]
 clear hb hv hK hN hbd
 go_enter Tryz.func65,Tryz.ntmps65
 go_wp2_with fail
 first | (go_region_with (first
  | (go_at_call 80;rw [← HV.out];refine (bare_at u B d B' d' _ true HBB.out).mono ?_;rintro e w1 ⟨rfl,hw1⟩;have hc1:=hw1.cells;have HW1:=Lib.hid hw1;clear hw1)
  | (go_at_call 81;refine (bad_at u.tx bd _ hs HB.out).mono ?_;rintro e w2 ⟨rfl,rfl⟩))) | fail "region"
 all_goals
  go_wp2_with fail
  go_ret
  exact ⟨by rw [hr.out];rfl,(((Fr.refl _).alloc _).drew).trans HW1.out⟩

/- The walk of emit.right: the kinds. -/

theorem right_yes (u:JV) (B:Option Addr) (d:Nat) (B':Option Addr) (d':Nat) (w:World) (h:InV w (Lo w.heap.size) u (vA u B d B' d')) (hk:1≤u.kd∧u.kd≤6) (hb:JV.bareB u=true) (hq:Utf.bad u.tx=u.tx.length):
  Calls Tryz.prog 65 #[vA u B d B' d'] w fun e w'=>e=.returned (.bool (JV.rightB u))∧Fr w w':=by
 obtain ⟨⟨hn1,hn2⟩,⟨hk1,hk2⟩,hs,hl,hm⟩:=h.facts
 obtain ⟨A,c,A',c',hx,hlc,hmc⟩:=h.open_
 obtain ⟨_,_,_,x3,x4⟩:=five hx
 simp only [Value.slice.injEq] at x3 x4
 obtain ⟨rfl,_,rfl⟩:=x3
 obtain ⟨rfl,_,rfl⟩:=x4
 clear hx
 have HR:=Lib.hid (right_eq u)
 have HM:=Lib.hid hmc
 clear hmc hlc h
 obtain ⟨K,hK⟩:∃ K,u.kd=K:=⟨_,rfl⟩
 obtain ⟨N,hN⟩:∃ N,u.nm=N:=⟨_,rfl⟩
 have hv:vA u B d B' d'=.agg #[.int .i64 K,.int .i64 N,.string ⟨u.tx.toArray⟩,.slice B u.ls.length d,.slice B' u.ms.length d']:=by rw [← hK,← hN];rfl
 have HK:=Lib.hid hK
 have HN:=Lib.hid hN
 have HV:=Lib.hid hv
 rw [hK] at hk
 obtain ⟨hk,hk6⟩:=hk
 have d1:decide (K<1)=false:=decide_eq_false (by omega)
 have d6:decide (6<K)=false:=decide_eq_false (by omega)
 have HBB:=Lib.hid hb
 have hbl:=Utf.bad_le u.tx
 obtain ⟨bd,hbd⟩:∃ bd,Utf.bad u.tx=bd:=⟨_,rfl⟩
 rw [hbd] at hbl
 have HB:=Lib.hid hbd
 have hr:Hid (JV.rightB u=rightK u):=by
  show _=_
  rw [HR.out,hb,hK,decide_eq_true (show 1≤K by omega),decide_eq_true (show K≤6 by omega),hq]
  simp
 rw [hbd] at hq
 have hne:((bd:Int) != (u.tx.length:Int))=false:=by rw [bne_eq_false_iff_eq];omega
 have hlen:u.ms.length≤140737488355328:=hm
 rw [hv]
 clear hb hv hK hN hbd hq
 go_enter Tryz.func65,Tryz.ntmps65
 go_wp2_with fail
 first | (go_region_with (first
  | (go_at_call 80;rw [← HV.out];refine (bare_at u B d B' d' _ true HBB.out).mono ?_;rintro e w1 ⟨rfl,hw1⟩;have hc1:=hw1.cells;have HW1:=Lib.hid hw1;clear hw1)
  | (go_at_call 81;refine (bad_at u.tx bd _ hs HB.out).mono ?_;rintro e w2 ⟨rfl,rfl⟩))) | fail "region"
 all_goals
  have HF:=Lib.hid ((((Fr.refl w).alloc _).drew).trans HW1.out)
  have HMS:=Lib.hid ((HM.out.keep (Nat.le_refl _) HF.out).map (S':=Lo w1.heap.size) (fun b hb=>Nat.lt_of_lt_of_le hb HF.out.size) (fun _ _ _=>rfl))
  have h8:decide ((8192:Int)<(u.ms.length:Int))=decide (8192<u.ms.length):=decide_eq_decide.2 (by omega)
  rcases (by omega:K=2∨K=3∨K=6∨(K≠2∧K≠3∧K≠6)) with rfl | rfl | rfl | ⟨k2,k3,k6⟩
  all_goals
   go_wp2_with (first | (go_at_call 82;refine (names_is u.ms B' d' _ HMS.out (by omega)).mono ?_;rintro e w3 ⟨rfl,hw3⟩;have HW3:=Lib.hid (HF.out.trans hw3);clear hw3))
   all_goals
    go_ret
    first
     | refine ⟨?_,HF.out⟩
     | refine ⟨?_,HW3.out⟩
    rw [hr.out]
    refine congrArg (fun b=>Ending.returned (.bool b)) ?_
    first
     | (simp [rightK,HK.out,HN.out, *];done)
     | (simp [rightK,HK.out,HN.out, *];omega)
     | (simp [rightK,HK.out,HN.out, *];left;omega)
     | (simp only [rightK,HK.out,h8];simp;done)
     | (simp only [rightK,HK.out];simp;congr 1;exact decide_eq_decide.2 (by omega))

theorem right_is (u:JV) (B:Option Addr) (d:Nat) (B':Option Addr) (d':Nat) (w:World) (h:InV w (Lo w.heap.size) u (vA u B d B' d')):
  Calls Tryz.prog 65 #[vA u B d B' d'] w fun e w'=>e=.returned (.bool (JV.rightB u))∧Fr w w':=by
 by_cases hk:1≤u.kd∧u.kd≤6
 ·cases hb:JV.bareB u with
  | false=>exact right_bare u B d B' d' w h hk hb
  | true=>
   by_cases hq:Utf.bad u.tx=u.tx.length
   ·exact right_yes u B d B' d' w h hk hb hq
   ·exact right_bad u B d B' d' w h hk hb hq
 ·exact right_low u B d B' d' w h hk
theorem right_at (u:JV) (B:Option Addr) (d:Nat) (B':Option Addr) (d':Nat) (w:World) (b:Bool) (h:InV w (Lo w.heap.size) u (vA u B d B' d')) (hb:JV.rightB u=b):
  Calls Tryz.prog 65 #[vA u B d B' d'] w fun e w'=>e=.returned (.bool b)∧Fr w w':=by
 subst hb;exact right_is u B d B' d' w h
end Go.Proofs.YtdhakbghdcfncaaGreatDoor
