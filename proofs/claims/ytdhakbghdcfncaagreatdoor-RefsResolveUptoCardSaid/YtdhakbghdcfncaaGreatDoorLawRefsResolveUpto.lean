/-
 The law RefsResolve of the given program, proved: whatever the input, the call returns true and every argument reads as it read before. Conditions: the arguments and the listed variables hold together at most 1048576 values and letters.
-/
import Derived.Test.YtdhakbghdcfncaaGreatDoorCards
import Derived.Test.YtdhakbghdcfncaaGreatDoorTie
import Derived.Test.YtdhakbghdcfncaaGreatDoorRow
import Derived.Test.YtdhakbghdcfncaaGreatDoorOpenV
import Derived.Carry
import Derived.Test.YtdhakbghdcfncaaGreatDoorRfq
import Derived.Test.YtdhakbghdcfncaaGreatDoorRfZ
namespace Go.Proofs.YtdhakbghdcfncaaGreatDoor.refsResolveUpto
set_option maxRecDepth 100000
set_option linter.unusedVariables false
set_option linter.unusedSimpArgs false
open Go.ChangeShapes Go.WideShapes Go.ChangeAt Go.RowKit
open Go.ChangeMaps (open_string shut_string)

theorem reads (os:Os) {H:Type} (enc:TypeId × Value→H):∃ places,DataW.whole enc Tryz.prog ((World.laidAll Tryz.prog os Rows.refsResolveUptoRow.laid).forCall (fun _ _=>0) ⟨#[],#[.agg #[.int .i64 0,.int .i64 0,.string ByteArray.empty,.slice none 0 0,.slice none 0 0],.slice none 0 0,.int .u8 0,.string ByteArray.empty,.string ByteArray.empty],[]⟩).memory Tryz.f6.params.toList (Rows.OpenSpec.upto Rows.refsResolveSpec).vars false (#[.agg #[.int .i64 0,.int .i64 0,.string ByteArray.empty,.slice none 0 0,.slice none 0 0],.slice none 0 0,.int .u8 0,.string ByteArray.empty,.string ByteArray.empty]:Array Value).toList 8=some ([.agg [.lit (.int .i64 0),.lit (.int .i64 0),.lit (.string []),.nil,.nil],.nil,.lit (.int .u8 0),.lit (.string []),.lit (.string [])],[],places):=
 ⟨[],by kernel_rfl⟩

theorem lifted (os:Os) (started:os.Started) (H:Type) (enc:TypeId × Value→H) (F:Stop.Interp):
  ReturnsInHanded {} Tryz.checked os 6 .any ((Rows.OpenSpec.upto Rows.refsResolveSpec).preRow enc Tryz.prog Tryz.f6 Rows.refsResolveUptoRow.domain false Rows.refsResolveUptoRow.laid) (((Rows.OpenSpec.upto Rows.refsResolveSpec).at F).post enc Tryz.prog Tryz.f6 false true false false):=by
 obtain ⟨places,hx⟩:=reads os enc
 refine returnsInHanded_of_row (C:=Tryz.checked) (s:=(Rows.OpenSpec.upto Rows.refsResolveSpec)) own started (by kernel_rfl) Tryz.func6
  (witness_shaped_row (enc:=enc) (C:=Tryz.checked) false (World.laidAll Tryz.prog os Rows.refsResolveUptoRow.laid) #[.agg #[.int .i64 0,.int .i64 0,.string ByteArray.empty,.slice none 0 0,.slice none 0 0],.slice none 0 0,.int .u8 0,.string ByteArray.empty,.string ByteArray.empty] (World.laidAll_os _ _ _) (World.shaped_of_ZipB (by kernel_rfl) (by kernel_rfl)) (by kernel_rfl)
   (OpenSpec.preRow_of_cond 8 hx (by kernel_rfl) (fun k hk=>by cases hk;kernel_rfl) (by kernel_rfl) (by rw [MakeChecks.laidMetH_plain _ _ _ (by kernel_rfl)];exact laidMet_laidAll _ (by kernel_rfl) (by kernel_rfl)))) ?_
 intro W base args ds gs before hval0 hW _ hcond0 hsz0 hL hSh _
 have hval:∀ (j:Nat) t v,Tryz.f6.params[j]? = some t→args[j]? = some v→Value.okWide Tryz.prog W .any base t v:=hval0
 have hk:Rows.uptoSmall H (ds++gs)=true:=hcond0 _ rfl
 have hsz:(DataW.weightsEach Tryz.prog (Tryz.f6.params.toList++(Rows.OpenSpec.upto Rows.refsResolveSpec).bare.plain.varTypes Tryz.prog) (ds++gs)).all (· ≤ reachBytes)=true:=hsz0
 clear hsz0 hcond0
 have hW':=hW
 obtain ⟨p,q,hA0,hV,rfl,hfz,hnd⟩:=hW
 have hA:DataW.TrodAll enc Tryz.prog W 0 (fun _=>true) true Tryz.f6.params.toList args.toList ds p:=hA0
 rw [Tryz.params6] at hA hval hsz
 obtain ⟨v0,vs0,d0,ds0,p0,q0,hargs,rfl,rfl,h0,r0⟩:=trodAll_cons hA
 obtain ⟨v1,vs1,d1,ds1,p1,q1,rfl,rfl,rfl,h1,r1⟩:=trodAll_cons r0
 obtain ⟨v2,vs2,d2,ds2,p2,q2,rfl,rfl,rfl,h2,r2⟩:=trodAll_cons r1
 obtain ⟨v3,vs3,d3,ds3,p3,q3,rfl,rfl,rfl,h3,r3⟩:=trodAll_cons r2
 obtain ⟨v4,vs4,d4,ds4,p4,q4,rfl,rfl,rfl,h4,r4⟩:=trodAll_cons r3
 obtain ⟨rfl,rfl,rfl⟩:=trodAll_nil r4
 obtain rfl:args=#[v0,v1,v2,v3,v4]:=by cases args;simp_all
 obtain ⟨rfl,rfl⟩:=trodVars_none hV
 have k0:=h0
 have k1:=h1
 obtain ⟨a2,rfl,rfl,rfl,w2⟩:=open_int Tryz.underlying5 (hval 2 5 v2 rfl rfl) h2
 obtain ⟨a3,rfl,rfl,rfl,w3⟩:=open_string Tryz.underlying9 (hval 3 9 v3 rfl rfl) h3
 obtain ⟨a4,rfl,rfl,rfl,w4⟩:=open_string Tryz.underlying9 (hval 4 9 v4 rfl rfl) h4
 obtain ⟨y2,x2⟩:=bounds_u8 w2
 have z3:a3.size≤140737488351232:=by
  have h:=sized_string hsz (j:=3) (t:=9) rfl rfl
  simpa [reachBytes] using h
 have z4:a4.size≤140737488351232:=by
  have h:=sized_string hsz (j:=4) (t:=9) rfl rfl
  simpa [reachBytes] using h
 have hK:=of_decide_eq_true hk
 simp only [List.append_nil,Rows.uptoBulkAll,Rows.uptoBulk] at hK
 obtain ⟨u0,A0,c0,A0',c0',rfl,g0,b0⟩:=open_v (by omega) (hval 0 25 v0 rfl rfl) h0
 obtain ⟨A1,u1,c1,rfl,g1,b1⟩:=open_cs (by omega) (hval 1 36 v1 rfl rfl) h1
 clear hA0 hval0
 simp only [List.append_nil] at hW'
 rw [MakeChecks.laidMetH_plain _ _ _ (by kernel_rfl)] at hL
 have hT:LowTabs W:=low_of (Lib.laidMet.reads hL (.tail _ (.tail _ (.tail _ (.tail _ (.head _)))))) (Lib.laidMet.reads hL (.head _)) (Lib.laidMet.reads hL (.tail _ (.tail _ (.tail _ (.head _)))))
 have hS:SpTab W:=sp_of (Lib.laidMet.reads hL (.tail _ (.tail _ (.head _))))
 have hM:MxL W:=Tryz.laysM146.s1_3 W hSh
 have walk:Calls Tryz.prog 6 #[vA u0 A0 c0 A0' c0',.slice A1 u1.length c1,.int .u8 a2,.string a3,.string a4] W fun e w'=>e=.returned (.bool true)∧Fr W w':=refsresolve_law u0 A0 c0 A0' c0' u1 A1 c1 a2 (by omega) (by omega) a3 a4 (by omega) W g0 b0 g1 b1 hT hS hM (cs_cap k1)
 refine walk.mono fun e W' ⟨he,bel⟩=>?_
 subst he
 exact ⟨_,rfl,_,_,_,[],_,[],hW',(trodAll_cons_mk (shut_bool Tryz.underlying4 _) trodAll_mk0),(trodAll_cons_mk (Below.trod (by kernel_rfl) (by kernel_rfl) (of_decide_eq_true (by kernel_rfl)) k0 bel (fun x hx=>by simpa using hW'.lt x (by simp [hx]))) (trodAll_cons_mk (Below.trod (by kernel_rfl) (by kernel_rfl) (of_decide_eq_true (by kernel_rfl)) k1 bel (fun x hx=>by simpa using hW'.lt x (by simp [hx]))) (trodAll_cons_mk (shut_int Tryz.underlying5 w2) (trodAll_cons_mk (shut_string Tryz.underlying9 w3) (trodAll_cons_mk (shut_string Tryz.underlying9 w4) trodAll_mk0))))),rfl,Below.frame bel _,fun h=>by cases h⟩

theorem said:Rows.RefsResolveUptoSaid:=
 OpenClaim.holds_of_cond 6 Tryz.f6 rfl rfl rfl rfl rfl rfl rfl ⟨rfl,rfl,rfl,rfl,rfl⟩ rfl rfl rfl rfl rfl (by kernel_rfl) Tryz.func6 (by kernel_rfl)
  (of_decide_eq_true (by kernel_rfl)) (by unfold Func.isWrapper;first | (rw [if_pos (by decide +kernel)];kernel_rfl) | (rw [if_neg (by decide +kernel)];exact ⟨rfl,rfl⟩))
  (fun os started H enc _ F=>by rw [OpenClaim.pre_eq_preRow];exact lifted os started H enc F)

theorem plain (f:FuncId) (fn:Func) (hf:Tryz.pinned.checked.prog.funcNamed "cardbox/cardboxlaw24.RefsResolve" = some f) (hfn:Tryz.pinned.checked.prog.funcs[f]? = some fn):
  true=Tryz.pinned.checked.prog.looks [] ∧ ∀ (j:Nat) t,fn.params[j]? = some t→Tryz.pinned.checked.prog.wantsStandIn t=false:=by
 obtain rfl:f=6:=Option.some.inj ((show Tryz.prog.funcNamed "cardbox/cardboxlaw24.RefsResolve" = some 6 by kernel_rfl).symm.trans hf) |>.symm
 obtain rfl:fn=Tryz.f6:=(Option.some.inj (Tryz.func6.symm.trans hfn)).symm
 refine ⟨by kernel_rfl,fun j t ht=>?_⟩
 rw [Tryz.params6] at ht
 have hm:t∈[25,36,5,9,9]:=by simpa using Array.mem_of_getElem? ht
 have hall:([25,36,5,9,9].all fun u=>!Tryz.prog.wantsStandIn u)=true:=by kernel_rfl
 exact (show Tryz.prog.wantsStandIn t=false by simpa using List.all_eq_true.1 hall t hm)

theorem proved:Rows.RefsResolveUptoCardSaid:=
 Claim7.holds_tied_plain_at .later [] _ _ _ _ said (fun _ h=>by cases h) (by kernel_rfl) (fun _ h=>by cases h) refsResolveUpto_row_tie rfl ⟨rfl,rfl⟩ (by kernel_rfl) rfl plain (by kernel_rfl)
end Go.Proofs.YtdhakbghdcfncaaGreatDoor.refsResolveUpto
