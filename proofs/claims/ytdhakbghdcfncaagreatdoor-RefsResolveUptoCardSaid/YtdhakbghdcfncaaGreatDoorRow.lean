/- What a row that lists variables gives: the tables; and a witness that holds them. -/
import Derived.Test.YtdhakbghdcfncaaGreatDoorCharsC
import Derived.Test.YtdhakbghdcfncaaGreatDoorRa
import Derived.PinnedBridge
import Derived.Lay
import Derived.Deep.DeepHandedRow
import Derived.Lib.LaidTab
import Derived.Lib.LaidU8
import Derived.Lib.LaidCase
import Derived.ProofKit
import Derived.OpenShut
import Derived.ShutString
import Derived.SizedLaws
namespace Go.Proofs.YtdhakbghdcfncaaGreatDoor
set_option maxRecDepth 100000
set_option linter.unusedVariables false
set_option linter.unusedSimpArgs false
open Go.RowKit

theorem own:ownKnob Tryz.prog.godebug=none:=by kernel_rfl

theorem witness_shaped_row {H:Type} {enc:TypeId × Value→H} {C:Checked} {os:Os} {f:FuncId} {fn:Func} {s:OpenSpec} {conds:List PathCond} {apart:Bool} {laid:List (String × DataW Unit)} (modest:Bool) (w0:World) (args:Array Value) (hos:w0.os=os)
  (hsh:(w0.forCall (fun _ _=>0) ⟨#[],args,[]⟩).Shaped C.prog)
  (hok:Input.okWideB C.prog (w0.forCall (fun _ _=>0) ⟨#[],args,[]⟩) f ⟨#[],args,[]⟩=true)
  (hrow:s.preRow enc C.prog fn conds apart laid (w0.forCall (fun _ _=>0) ⟨#[],args,[]⟩).memory args):
  ∃ (w:World) (tape:Tape) (i:Input),w.os=os∧(w.forCall tape i).Shaped C.prog∧i.vars=[]∧Input.okWide C.prog (w.forCall tape i) .any w.heap.size f i ∧
   s.preRow enc C.prog fn conds apart laid (w.forCall tape i).memory i.args∧({ modest:=modest }:Assume).holds C.prog (lone (Frame.enter C.prog f i.args .normal) [] (w.forCall tape i)):=
 ⟨w0,fun _ _=>0,⟨#[],args,[]⟩,hos,hsh,(Input.okWide_of_okWideB (base:=0) hok).1,(Input.okWide_of_okWideB hok).2,hrow,by
  simp only [Assume.holds]
  exact ⟨by simp,by simp,fun _=>Modest.zero,by simp,by simp⟩⟩

theorem accept_eq:(Rows.laid_unicode_utf8_acceptRanges:DataW Unit)=Lib.acceptData:=by kernel_rfl
theorem u8x:U8Extra Tryz.prog Tryz.lays159_ren:=⟨by kernel_rfl,by kernel_rfl,by kernel_rfl,by kernel_rfl,by kernel_rfl,by kernel_rfl,by kernel_rfl⟩
theorem casex:CaseExtra Tryz.prog Tryz.lays159_ren:=⟨by kernel_rfl,by kernel_rfl,by kernel_rfl,by kernel_rfl,by kernel_rfl,by kernel_rfl⟩

theorem low_of {W:World} (h1:Lib.VarReads Tryz.prog W "unicode/utf8.first" Rows.laid_unicode_utf8_first) (h2:Lib.VarReads Tryz.prog W "unicode/utf8.acceptRanges" Rows.laid_unicode_utf8_acceptRanges) (h3:Lib.VarReads Tryz.prog W "unicode.CaseRanges" Rows.laid_unicode_CaseRanges):LowTabs W:=by
 rw [accept_eq] at h2
 unfold Rows.laid_unicode_utf8_first at h1
 unfold Rows.laid_unicode_CaseRanges at h3
 rw [Pinned.utf8First_eq] at h1
 rw [Pinned.caseRanges_eq] at h3
 exact ⟨caseVar_of_reads (ρ:=Tryz.lays159_ren) { Tryz.lays159 with } Tryz.lays159.t206 casex h3,utf8Tabs_of_reads (ρ:=Tryz.lays159_ren) { Tryz.lays159 with } u8x h1 h2⟩
end Go.Proofs.YtdhakbghdcfncaaGreatDoor
