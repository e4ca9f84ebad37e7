/-
 The law RefsArgs of the given program, proved: whatever the input, the call returns true and every argument reads as it read before. Conditions: the arguments and the listed variables hold together at most 1048576 values and letters.
-/
import Derived.Test.YtdhakbghdcfncaaGreatDoorCards
import Derived.Test.YtdhakbghdcfncaaGreatDoorTie
import Derived.Test.YtdhakbghdcfncaaGreatDoorRow
import Derived.Test.YtdhakbghdcfncaaGreatDoorOpenV
import Derived.Carry
import Derived.Test.YtdhakbghdcfncaaGreatDoorRfu
namespace Go.Proofs.YtdhakbghdcfncaaGreatDoor.refsArgsUpto
set_option maxRecDepth 100000
set_option linter.unusedVariables false
set_option linter.unusedSimpArgs false
open Go.ChangeShapes Go.WideShapes Go.ChangeAt Go.RowKit
open Go.ChangeMaps (open_string shut_string)

theorem reads (os:Os) {H:Type} (enc:TypeId × Value→H):∃ places,DataW.whole enc Tryz.prog ((World.laidAll Tryz.prog os Rows.refsArgsUptoRow.laid).forCall (fun _ _=>0) ⟨#[],#[.agg #[.int .i64 0,.int .i64 0,.string ByteArray.empty,.slice none 0 0,.slice none 0 0],.int .u8 0],[]⟩).memory Tryz.f3.params.toList (Rows.OpenSpec.upto Rows.refsArgsSpec).vars false (#[.agg #[.int .i64 0,.int .i64 0,.string ByteArray.empty,.slice none 0 0,.slice none 0 0],.int .u8 0]:Array Value).toList 8=some ([.agg [.lit (.int .i64 0),.lit (.int .i64 0),.lit (.string []),.nil,.nil],.lit (.int .u8 0)],[],places):=
 ⟨[],by kernel_rfl⟩

theorem lifted (os:Os) (started:os.Started) (H:Type) (enc:TypeId × Value→H) (F:Stop.Interp):
  ReturnsInHanded {} Tryz.checked os 3 .any ((Rows.OpenSpec.upto Rows.refsArgsSpec).preRow enc Tryz.prog Tryz.f3 Rows.refsArgsUptoRow.domain false Rows.refsArgsUptoRow.laid) (((Rows.OpenSpec.upto Rows.refsArgsSpec).at F).post enc Tryz.prog Tryz.f3 false true false false):=by
 obtain ⟨places,hx⟩:=reads os enc
 refine returnsInHanded_of_row (C:=Tryz.checked) (s:=(Rows.OpenSpec.upto Rows.refsArgsSpec)) own started (by kernel_rfl) Tryz.func3
  (witness_shaped_row (enc:=enc) (C:=Tryz.checked) false (World.laidAll Tryz.prog os Rows.refsArgsUptoRow.laid) #[.agg #[.int .i64 0,.int .i64 0,.string ByteArray.empty,.slice none 0 0,.slice none 0 0],.int .u8 0] (World.laidAll_os _ _ _) (World.shaped_of_ZipB (by kernel_rfl) (by kernel_rfl)) (by kernel_rfl)
   (OpenSpec.preRow_of_cond 8 hx (by kernel_rfl) (fun k hk=>by cases hk;kernel_rfl) (by kernel_rfl) (by rw [MakeChecks.laidMetH_plain _ _ _ (by kernel_rfl)];exact laidMet_laidAll _ (by kernel_rfl) (by kernel_rfl)))) ?_
 intro W base args ds gs before hval0 hW _ hcond0 hsz0 hL hSh _
 have hval:∀ (j:Nat) t v,Tryz.f3.params[j]? = some t→args[j]? = some v→Value.okWide Tryz.prog W .any base t v:=hval0
 have hk:Rows.uptoSmall H (ds++gs)=true:=hcond0 _ rfl
 have hsz:(DataW.weightsEach Tryz.prog (Tryz.f3.params.toList++(Rows.OpenSpec.upto Rows.refsArgsSpec).bare.plain.varTypes Tryz.prog) (ds++gs)).all (· ≤ reachBytes)=true:=hsz0
 clear hsz0 hcond0
 have hW':=hW
 obtain ⟨p,q,hA0,hV,rfl,hfz,hnd⟩:=hW
 have hA:DataW.TrodAll enc Tryz.prog W 0 (fun _=>true) true Tryz.f3.params.toList args.toList ds p:=hA0
 rw [Tryz.params3] at hA hval hsz
 obtain ⟨v0,vs0,d0,ds0,p0,q0,hargs,rfl,rfl,h0,r0⟩:=trodAll_cons hA
 obtain ⟨v1,vs1,d1,ds1,p1,q1,rfl,rfl,rfl,h1,r1⟩:=trodAll_cons r0
 obtain ⟨rfl,rfl,rfl⟩:=trodAll_nil r1
 obtain rfl:args=#[v0,v1]:=by cases args;simp_all
 obtain ⟨rfl,rfl⟩:=trodVars_none hV
 have k0:=h0
 obtain ⟨a1,rfl,rfl,rfl,w1⟩:=open_int Tryz.underlying5 (hval 1 5 v1 rfl rfl) h1
 obtain ⟨y1,x1⟩:=bounds_u8 w1
 have hK:=of_decide_eq_true hk
 simp only [List.append_nil,Rows.uptoBulkAll,Rows.uptoBulk] at hK
 obtain ⟨u0,A0,c0,A0',c0',rfl,g0,b0⟩:=open_v (by omega) (hval 0 25 v0 rfl rfl) h0
 clear hA0 hval0
 simp only [List.append_nil] at hW'
 rw [MakeChecks.laidMetH_plain _ _ _ (by kernel_rfl)] at hL
 have hT:LowTabs W:=low_of (Lib.laidMet.reads hL (.tail _ (.tail _ (.tail _ (.tail _ (.head _)))))) (Lib.laidMet.reads hL (.head _)) (Lib.laidMet.reads hL (.tail _ (.tail _ (.tail _ (.head _)))))
 have hS:SpTab W:=sp_of (Lib.laidMet.reads hL (.tail _ (.tail _ (.head _))))
 have hM:MxL W:=Tryz.laysM146.s1_3 W hSh
 have walk:Calls Tryz.prog 3 #[vA u0 A0 c0 A0' c0',.int .u8 a1] W fun e w'=>e=.returned (.bool true)∧Fr W w':=refsargs_law u0 A0 c0 A0' c0' a1 (by omega) (by omega) W g0 b0 hT hS hM
 refine walk.mono fun e W' ⟨he,bel⟩=>?_
 subst he
 exact ⟨_,rfl,_,_,_,[],_,[],hW',(trodAll_cons_mk (shut_bool Tryz.underlying4 _) trodAll_mk0),(trodAll_cons_mk (Below.trod (by kernel_rfl) (by kernel_rfl) (of_decide_eq_true (by kernel_rfl)) k0 bel (fun x hx=>by simpa using hW'.lt x (by simp [hx]))) (trodAll_cons_mk (shut_int Tryz.underlying5 w1) trodAll_mk0)),rfl,Below.frame bel _,fun h=>by cases h⟩

theorem said:Rows.RefsArgsUptoSaid:=
 OpenClaim.holds_of_cond 3 Tryz.f3 rfl rfl rfl rfl rfl rfl rfl ⟨rfl,rfl,rfl,rfl,rfl⟩ rfl rfl rfl rfl rfl (by kernel_rfl) Tryz.func3 (by kernel_rfl)
  (of_decide_eq_true (by kernel_rfl)) (by unfold Func.isWrapper;first | (rw [if_pos (by decide +kernel)];kernel_rfl) | (rw [if_neg (by decide +kernel)];exact ⟨rfl,rfl⟩))
  (fun os started H enc _ F=>by rw [OpenClaim.pre_eq_preRow];exact lifted os started H enc F)

theorem plain (f:FuncId) (fn:Func) (hf:Tryz.pinned.checked.prog.funcNamed "cardbox/cardboxlaw24.RefsArgs" = some f) (hfn:Tryz.pinned.checked.prog.funcs[f]? = some fn):
  true=Tryz.pinned.checked.prog.looks [] ∧ ∀ (j:Nat) t,fn.params[j]? = some t→Tryz.pinned.checked.prog.wantsStandIn t=false:=by
 obtain rfl:f=3:=Option.some.inj ((show Tryz.prog.funcNamed "cardbox/cardboxlaw24.RefsArgs" = some 3 by kernel_rfl).symm.trans hf) |>.symm
 obtain rfl:fn=Tryz.f3:=(Option.some.inj (Tryz.func3.symm.trans hfn)).symm
 refine ⟨by kernel_rfl,fun j t ht=>?_⟩
 rw [Tryz.params3] at ht
 have hm:t∈[25,5]:=by simpa using Array.mem_of_getElem? ht
 have hall:([25,5].all fun u=>!Tryz.prog.wantsStandIn u)=true:=by kernel_rfl
 exact (show Tryz.prog.wantsStandIn t=false by simpa using List.all_eq_true.1 hall t hm)

theorem proved:Rows.RefsArgsUptoCardSaid:=
 Claim7.holds_tied_plain_at .later [] _ _ _ _ said (fun _ h=>by cases h) (by kernel_rfl) (fun _ h=>by cases h) refsArgsUpto_row_tie rfl ⟨rfl,rfl⟩ (by kernel_rfl) rfl plain (by kernel_rfl)
end Go.Proofs.YtdhakbghdcfncaaGreatDoor.refsArgsUpto
