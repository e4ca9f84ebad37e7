/-
  NARROWER THAN 'FOR EVERY INPUT', by the rows' own cells (each row's printed sentence says how): PatchApplies: loops, laid · PatchTurned: loops, laid · PatchTwice: loops, laid · PatchKeeps: loops, laid · PatchWhole: loops, laid · PatchAlone: loops, laid.
  DERIVED. THE GIVEN ROWS OF THIS SEAT. 6 by the template 'for every input the law returns true; each argument reads behind the call as it read before'; 0 by the template 'total and deterministic' (their statements: YtlmcfhokfiibkaaGreatDoorTotals.lean).
  GIVEN WITH THE SEED: the statements are not yours to turn. If you find one false, say at which input.
  Laid BY PROGRAM, IN A SANDBOX (cutbox-rows.mjs): the forced cells as the released guide's own fill.sh prints them over the translation 252b5dea0520b2c3… (all of the seat's roots in one cut). By AI agents, Wed Nov 11 2026. No macro, syntax, notation, axiom, sorry.
-/
import Derived.Test.YtlmcfhokfiibkaaGreatDoorChecked
import GoSem.PinnedTables
import GoSem.Claim
import GoSem.ClaimJoined
import GoSem.ClaimMapViews
import Derived.JoinedTies
import Derived.KernelRfl
namespace Go.Proofs.YtlmcfhokfiibkaaGreatDoor
/- THE CELL 'sum', in the pinned program and in every row, IS THE sha256 OF THE DUMP (.gsa) THAT YtlmcfhokfiibkaaGreatDoorProg.lean LOADS. Nothing in Lean hashes anything: it is a label: what it is worth is what the hold of that sum in a sandbox is worth. -/
noncomputable def Tryz.pinned : Pinned := { name := "ytlmcfhokfiibkaagreatdoor", sum := "252b5dea0520b2c377ee8d86f1050416c086438c241c96a6547deb7ac0d61d7d", checked := Tryz.checked }
namespace Rows
def none {H : Type} : Left H := { results := [], args := [] }

/- WHAT THE LISTED PACKAGE-LEVEL VARIABLES READ AS WHEN THE CALL BEGINS. Each datum BY PROGRAM (the guide's laid-datum.mjs) off the statement by which the dump's own 'gosem.cut.vars' lays the variable. In a bare row this is a premise. The card (YtlmcfhokfiibkaaGreatDoorCards.lean) ties it to the program's text. -/
def laid_unicode_utf8_acceptRanges {H : Type} : DataW H := .agg [.agg [.lit (.int .u8 128), .lit (.int .u8 191)], .agg [.lit (.int .u8 160), .lit (.int .u8 191)], .agg [.lit (.int .u8 128), .lit (.int .u8 159)], .agg [.lit (.int .u8 144), .lit (.int .u8 191)], .agg [.lit (.int .u8 128), .lit (.int .u8 143)], .agg [.lit (.int .u8 0), .lit (.int .u8 0)], .agg [.lit (.int .u8 0), .lit (.int .u8 0)], .agg [.lit (.int .u8 0), .lit (.int .u8 0)], .agg [.lit (.int .u8 0), .lit (.int .u8 0)], .agg [.lit (.int .u8 0), .lit (.int .u8 0)], .agg [.lit (.int .u8 0), .lit (.int .u8 0)], .agg [.lit (.int .u8 0), .lit (.int .u8 0)], .agg [.lit (.int .u8 0), .lit (.int .u8 0)], .agg [.lit (.int .u8 0), .lit (.int .u8 0)], .agg [.lit (.int .u8 0), .lit (.int .u8 0)], .agg [.lit (.int .u8 0), .lit (.int .u8 0)]]
/-- One of Go's own tables, pinned by name: the form's constant. -/
def laid_unicode_CaseRanges : DataW Unit := Go.Pinned.caseRanges
/-- One of Go's own tables, pinned by name: the form's constant. -/
def laid_unicode_utf8_first : DataW Unit := Go.Pinned.utf8First

/-- 'cardboxlaw09.PatchApplies': WHATEVER THE INPUT: true; the input reads as it did. -/
def patchAppliesSpec : ChangeSpec := { name := "patchApplies", fn := fun _ => fun
  | [d1, d2] => { results := [.lit (.bool true)], args := [d1, d2] }
  | _ => none }
def patchAppliesRow : OpenClaim := { program := "ytlmcfhokfiibkaagreatdoor", sum := "252b5dea0520b2c377ee8d86f1050416c086438c241c96a6547deb7ac0d61d7d", func := "cardbox/cardboxlaw09.PatchApplies", spec := "patchApplies", inPlace := ["internal/bytealg.IndexByteString", "internal/abi.NoEscape", "internal/bytealg.MakeNoZero", "internal/bytealg.CountString", "internal/bytealg.IndexString"], unfollowed := true, recurses := true, named := ["unicode/utf8.first", "unicode/utf8.acceptRanges", "unicode.CaseRanges", "internal/bytealg.MaxLen"], loops := true, apart := false, laid := [("unicode/utf8.acceptRanges", laid_unicode_utf8_acceptRanges), ("unicode.CaseRanges", laid_unicode_CaseRanges), ("unicode/utf8.first", laid_unicode_utf8_first)] }
def PatchAppliesSaid : Prop := patchAppliesRow.holds Tryz.pinned (OpenSpec.ofChange patchAppliesSpec)

/-- ITS FALSE NEIGHBOUR: 'it returns false'. Refute it at one input. -/
def patchAppliesWrong : ChangeSpec := { name := "patchApplies", fn := fun _ => fun
  | [d1, d2] => { results := [.lit (.bool false)], args := [d1, d2] }
  | _ => none }
def PatchAppliesWrongFalsely : Prop := patchAppliesRow.holds Tryz.pinned (OpenSpec.ofChange patchAppliesWrong)

/-- 'cardboxlaw09.PatchTurned': WHATEVER THE INPUT: true; the input reads as it did. -/
def patchTurnedSpec : ChangeSpec := { name := "patchTurned", fn := fun _ => fun
  | [d1, d2, d3] => { results := [.lit (.bool true)], args := [d1, d2, d3] }
  | _ => none }
def patchTurnedRow : OpenClaim := { program := "ytlmcfhokfiibkaagreatdoor", sum := "252b5dea0520b2c377ee8d86f1050416c086438c241c96a6547deb7ac0d61d7d", func := "cardbox/cardboxlaw09.PatchTurned", spec := "patchTurned", inPlace := ["internal/bytealg.IndexByteString", "internal/abi.NoEscape", "internal/bytealg.MakeNoZero", "internal/bytealg.CountString", "internal/bytealg.IndexString"], unfollowed := true, recurses := true, named := ["unicode/utf8.first", "unicode/utf8.acceptRanges", "unicode.CaseRanges", "internal/bytealg.MaxLen"], loops := true, apart := false, laid := [("unicode/utf8.acceptRanges", laid_unicode_utf8_acceptRanges), ("unicode.CaseRanges", laid_unicode_CaseRanges), ("unicode/utf8.first", laid_unicode_utf8_first)] }
def PatchTurnedSaid : Prop := patchTurnedRow.holds Tryz.pinned (OpenSpec.ofChange patchTurnedSpec)

/-- ITS FALSE NEIGHBOUR: 'it returns false'. Refute it at one input. -/
def patchTurnedWrong : ChangeSpec := { name := "patchTurned", fn := fun _ => fun
  | [d1, d2, d3] => { results := [.lit (.bool false)], args := [d1, d2, d3] }
  | _ => none }
def PatchTurnedWrongFalsely : Prop := patchTurnedRow.holds Tryz.pinned (OpenSpec.ofChange patchTurnedWrong)

/-- 'cardboxlaw09.PatchTwice': WHATEVER THE INPUT: true; the input reads as it did. -/
def patchTwiceSpec : ChangeSpec := { name := "patchTwice", fn := fun _ => fun
  | [d1, d2] => { results := [.lit (.bool true)], args := [d1, d2] }
  | _ => none }
def patchTwiceRow : OpenClaim := { program := "ytlmcfhokfiibkaagreatdoor", sum := "252b5dea0520b2c377ee8d86f1050416c086438c241c96a6547deb7ac0d61d7d", func := "cardbox/cardboxlaw09.PatchTwice", spec := "patchTwice", inPlace := ["internal/bytealg.IndexByteString", "internal/abi.NoEscape", "internal/bytealg.MakeNoZero", "internal/bytealg.CountString", "internal/bytealg.IndexString"], unfollowed := true, recurses := true, named := ["unicode/utf8.first", "unicode/utf8.acceptRanges", "unicode.CaseRanges", "internal/bytealg.MaxLen"], loops := true, apart := false, laid := [("unicode/utf8.acceptRanges", laid_unicode_utf8_acceptRanges), ("unicode.CaseRanges", laid_unicode_CaseRanges), ("unicode/utf8.first", laid_unicode_utf8_first)] }
def PatchTwiceSaid : Prop := patchTwiceRow.holds Tryz.pinned (OpenSpec.ofChange patchTwiceSpec)

/-- ITS FALSE NEIGHBOUR: 'it returns false'. Refute it at one input. -/
def patchTwiceWrong : ChangeSpec := { name := "patchTwice", fn := fun _ => fun
  | [d1, d2] => { results := [.lit (.bool false)], args := [d1, d2] }
  | _ => none }
def PatchTwiceWrongFalsely : Prop := patchTwiceRow.holds Tryz.pinned (OpenSpec.ofChange patchTwiceWrong)

/-- 'cardboxlaw09.PatchKeeps': WHATEVER THE INPUT: true; the input reads as it did. -/
def patchKeepsSpec : ChangeSpec := { name := "patchKeeps", fn := fun _ => fun
  | [d1, d2] => { results := [.lit (.bool true)], args := [d1, d2] }
  | _ => none }
def patchKeepsRow : OpenClaim := { program := "ytlmcfhokfiibkaagreatdoor", sum := "252b5dea0520b2c377ee8d86f1050416c086438c241c96a6547deb7ac0d61d7d", func := "cardbox/cardboxlaw09.PatchKeeps", spec := "patchKeeps", inPlace := ["internal/bytealg.IndexByteString", "internal/abi.NoEscape", "internal/bytealg.MakeNoZero", "internal/bytealg.CountString", "internal/bytealg.IndexString"], unfollowed := true, recurses := true, named := ["unicode/utf8.first", "unicode/utf8.acceptRanges", "unicode.CaseRanges", "internal/bytealg.MaxLen"], loops := true, apart := false, laid := [("unicode/utf8.acceptRanges", laid_unicode_utf8_acceptRanges), ("unicode.CaseRanges", laid_unicode_CaseRanges), ("unicode/utf8.first", laid_unicode_utf8_first)] }
def PatchKeepsSaid : Prop := patchKeepsRow.holds Tryz.pinned (OpenSpec.ofChange patchKeepsSpec)

/-- ITS FALSE NEIGHBOUR: 'it returns false'. Refute it at one input. -/
def patchKeepsWrong : ChangeSpec := { name := "patchKeeps", fn := fun _ => fun
  | [d1, d2] => { results := [.lit (.bool false)], args := [d1, d2] }
  | _ => none }
def PatchKeepsWrongFalsely : Prop := patchKeepsRow.holds Tryz.pinned (OpenSpec.ofChange patchKeepsWrong)

/-- 'cardboxlaw09.PatchWhole': WHATEVER THE INPUT: true; the input reads as it did. -/
def patchWholeSpec : ChangeSpec := { name := "patchWhole", fn := fun _ => fun
  | [d1, d2] => { results := [.lit (.bool true)], args := [d1, d2] }
  | _ => none }
def patchWholeRow : OpenClaim := { program := "ytlmcfhokfiibkaagreatdoor", sum := "252b5dea0520b2c377ee8d86f1050416c086438c241c96a6547deb7ac0d61d7d", func := "cardbox/cardboxlaw09.PatchWhole", spec := "patchWhole", inPlace := ["internal/bytealg.IndexByteString", "internal/abi.NoEscape", "internal/bytealg.MakeNoZero", "internal/bytealg.CountString", "internal/bytealg.IndexString"], unfollowed := true, recurses := true, named := ["unicode/utf8.first", "unicode/utf8.acceptRanges", "unicode.CaseRanges", "internal/bytealg.MaxLen"], loops := true, apart := false, laid := [("unicode/utf8.acceptRanges", laid_unicode_utf8_acceptRanges), ("unicode.CaseRanges", laid_unicode_CaseRanges), ("unicode/utf8.first", laid_unicode_utf8_first)] }
def PatchWholeSaid : Prop := patchWholeRow.holds Tryz.pinned (OpenSpec.ofChange patchWholeSpec)

/-- ITS FALSE NEIGHBOUR: 'it returns false'. Refute it at one input. -/
def patchWholeWrong : ChangeSpec := { name := "patchWhole", fn := fun _ => fun
  | [d1, d2] => { results := [.lit (.bool false)], args := [d1, d2] }
  | _ => none }
def PatchWholeWrongFalsely : Prop := patchWholeRow.holds Tryz.pinned (OpenSpec.ofChange patchWholeWrong)

/-- 'cardboxlaw09.PatchAlone': WHATEVER THE INPUT: true; the input reads as it did. -/
def patchAloneSpec : ChangeSpec := { name := "patchAlone", fn := fun _ => fun
  | [d1, d2, d3] => { results := [.lit (.bool true)], args := [d1, d2, d3] }
  | _ => none }
def patchAloneRow : OpenClaim := { program := "ytlmcfhokfiibkaagreatdoor", sum := "252b5dea0520b2c377ee8d86f1050416c086438c241c96a6547deb7ac0d61d7d", func := "cardbox/cardboxlaw09.PatchAlone", spec := "patchAlone", inPlace := ["internal/bytealg.IndexByteString", "internal/abi.NoEscape", "internal/bytealg.MakeNoZero", "internal/bytealg.CountString", "internal/bytealg.IndexString"], unfollowed := true, recurses := true, named := ["unicode/utf8.first", "unicode/utf8.acceptRanges", "unicode.CaseRanges", "internal/bytealg.MaxLen"], loops := true, apart := false, laid := [("unicode/utf8.acceptRanges", laid_unicode_utf8_acceptRanges), ("unicode.CaseRanges", laid_unicode_CaseRanges), ("unicode/utf8.first", laid_unicode_utf8_first)] }
def PatchAloneSaid : Prop := patchAloneRow.holds Tryz.pinned (OpenSpec.ofChange patchAloneSpec)

/-- ITS FALSE NEIGHBOUR: 'it returns false'. Refute it at one input. -/
def patchAloneWrong : ChangeSpec := { name := "patchAlone", fn := fun _ => fun
  | [d1, d2, d3] => { results := [.lit (.bool false)], args := [d1, d2, d3] }
  | _ => none }
def PatchAloneWrongFalsely : Prop := patchAloneRow.holds Tryz.pinned (OpenSpec.ofChange patchAloneWrong)

/- THE SECOND FORM. 'bulk': how many values and letters a reading holds, each counted each time it is reached (what is shared counts as often as it is met; a slice's spare places count too). A statement '..UptoSaid' is the law's where the arguments, and the package variables that the reading takes, are together of bulk at most 1048576: NARROWER than '..Said'. Prove '..Said' where nothing that the law and all that it calls make is longer than what came in: it says more and counts as full. Else prove '..UptoSaid'. A law counts once. -/
mutual
def uptoBulk {H : Type} : DataW H → Nat
  | .lit (.string bytes) => bytes.length + 1
  | .lit _ => 1
  | .nil => 1
  | .ptr d => uptoBulk d + 1
  | .slice elems spare => uptoBulkAll elems + uptoBulkAll spare + 1
  | .agg parts => uptoBulkAll parts + 1
  | .iface _ d => uptoBulk d + 1
  | .map entries => uptoBulkEntries entries + 1
  | .held _ => 1
def uptoBulkAll {H : Type} : List (DataW H) → Nat
  | [] => 0
  | d :: r => uptoBulk d + uptoBulkAll r
def uptoBulkEntries {H : Type} : List (Lit × DataW H) → Nat
  | [] => 0
  | x :: r => uptoBulkEntry x + uptoBulkEntries r
def uptoBulkEntry {H : Type} : Lit × DataW H → Nat
  | (.string bytes, d) => bytes.length + uptoBulk d + 1
  | (_, d) => uptoBulk d + 1
 end
def uptoSmall : (H : Type) → List (DataW H) → Bool := fun _ ds => decide (uptoBulkAll ds ≤ 1048576)
def OpenSpec.upto (s : _root_.Go.ChangeSpec) : _root_.Go.OpenSpec := { _root_.Go.OpenSpec.ofChange s with cond := some uptoSmall }

/-- 'cardboxlaw09.PatchApplies', WHERE WHAT IT READS IS OF BULK AT MOST 1048576: true; the input reads as it did. -/
def patchAppliesUptoRow : OpenClaim := { program := "ytlmcfhokfiibkaagreatdoor", sum := "252b5dea0520b2c377ee8d86f1050416c086438c241c96a6547deb7ac0d61d7d", func := "cardbox/cardboxlaw09.PatchApplies", spec := "patchApplies", inPlace := ["internal/bytealg.IndexByteString", "internal/abi.NoEscape", "internal/bytealg.MakeNoZero", "internal/bytealg.CountString", "internal/bytealg.IndexString"], unfollowed := true, recurses := true, named := ["unicode/utf8.first", "unicode/utf8.acceptRanges", "unicode.CaseRanges", "internal/bytealg.MaxLen"], loops := true, apart := false, laid := [("unicode/utf8.acceptRanges", laid_unicode_utf8_acceptRanges), ("unicode.CaseRanges", laid_unicode_CaseRanges), ("unicode/utf8.first", laid_unicode_utf8_first)], narrowed := true }
def PatchAppliesUptoSaid : Prop := patchAppliesUptoRow.holds Tryz.pinned (OpenSpec.upto patchAppliesSpec)

/-- 'cardboxlaw09.PatchTurned', WHERE WHAT IT READS IS OF BULK AT MOST 1048576: true; the input reads as it did. -/
def patchTurnedUptoRow : OpenClaim := { program := "ytlmcfhokfiibkaagreatdoor", sum := "252b5dea0520b2c377ee8d86f1050416c086438c241c96a6547deb7ac0d61d7d", func := "cardbox/cardboxlaw09.PatchTurned", spec := "patchTurned", inPlace := ["internal/bytealg.IndexByteString", "internal/abi.NoEscape", "internal/bytealg.MakeNoZero", "internal/bytealg.CountString", "internal/bytealg.IndexString"], unfollowed := true, recurses := true, named := ["unicode/utf8.first", "unicode/utf8.acceptRanges", "unicode.CaseRanges", "internal/bytealg.MaxLen"], loops := true, apart := false, laid := [("unicode/utf8.acceptRanges", laid_unicode_utf8_acceptRanges), ("unicode.CaseRanges", laid_unicode_CaseRanges), ("unicode/utf8.first", laid_unicode_utf8_first)], narrowed := true }
def PatchTurnedUptoSaid : Prop := patchTurnedUptoRow.holds Tryz.pinned (OpenSpec.upto patchTurnedSpec)

/-- 'cardboxlaw09.PatchTwice', WHERE WHAT IT READS IS OF BULK AT MOST 1048576: true; the input reads as it did. -/
def patchTwiceUptoRow : OpenClaim := { program := "ytlmcfhokfiibkaagreatdoor", sum := "252b5dea0520b2c377ee8d86f1050416c086438c241c96a6547deb7ac0d61d7d", func := "cardbox/cardboxlaw09.PatchTwice", spec := "patchTwice", inPlace := ["internal/bytealg.IndexByteString", "internal/abi.NoEscape", "internal/bytealg.MakeNoZero", "internal/bytealg.CountString", "internal/bytealg.IndexString"], unfollowed := true, recurses := true, named := ["unicode/utf8.first", "unicode/utf8.acceptRanges", "unicode.CaseRanges", "internal/bytealg.MaxLen"], loops := true, apart := false, laid := [("unicode/utf8.acceptRanges", laid_unicode_utf8_acceptRanges), ("unicode.CaseRanges", laid_unicode_CaseRanges), ("unicode/utf8.first", laid_unicode_utf8_first)], narrowed := true }
def PatchTwiceUptoSaid : Prop := patchTwiceUptoRow.holds Tryz.pinned (OpenSpec.upto patchTwiceSpec)

/-- 'cardboxlaw09.PatchKeeps', WHERE WHAT IT READS IS OF BULK AT MOST 1048576: true; the input reads as it did. -/
def patchKeepsUptoRow : OpenClaim := { program := "ytlmcfhokfiibkaagreatdoor", sum := "252b5dea0520b2c377ee8d86f1050416c086438c241c96a6547deb7ac0d61d7d", func := "cardbox/cardboxlaw09.PatchKeeps", spec := "patchKeeps", inPlace := ["internal/bytealg.IndexByteString", "internal/abi.NoEscape", "internal/bytealg.MakeNoZero", "internal/bytealg.CountString", "internal/bytealg.IndexString"], unfollowed := true, recurses := true, named := ["unicode/utf8.first", "unicode/utf8.acceptRanges", "unicode.CaseRanges", "internal/bytealg.MaxLen"], loops := true, apart := false, laid := [("unicode/utf8.acceptRanges", laid_unicode_utf8_acceptRanges), ("unicode.CaseRanges", laid_unicode_CaseRanges), ("unicode/utf8.first", laid_unicode_utf8_first)], narrowed := true }
def PatchKeepsUptoSaid : Prop := patchKeepsUptoRow.holds Tryz.pinned (OpenSpec.upto patchKeepsSpec)

/-- 'cardboxlaw09.PatchWhole', WHERE WHAT IT READS IS OF BULK AT MOST 1048576: true; the input reads as it did. -/
def patchWholeUptoRow : OpenClaim := { program := "ytlmcfhokfiibkaagreatdoor", sum := "252b5dea0520b2c377ee8d86f1050416c086438c241c96a6547deb7ac0d61d7d", func := "cardbox/cardboxlaw09.PatchWhole", spec := "patchWhole", inPlace := ["internal/bytealg.IndexByteString", "internal/abi.NoEscape", "internal/bytealg.MakeNoZero", "internal/bytealg.CountString", "internal/bytealg.IndexString"], unfollowed := true, recurses := true, named := ["unicode/utf8.first", "unicode/utf8.acceptRanges", "unicode.CaseRanges", "internal/bytealg.MaxLen"], loops := true, apart := false, laid := [("unicode/utf8.acceptRanges", laid_unicode_utf8_acceptRanges), ("unicode.CaseRanges", laid_unicode_CaseRanges), ("unicode/utf8.first", laid_unicode_utf8_first)], narrowed := true }
def PatchWholeUptoSaid : Prop := patchWholeUptoRow.holds Tryz.pinned (OpenSpec.upto patchWholeSpec)

/-- 'cardboxlaw09.PatchAlone', WHERE WHAT IT READS IS OF BULK AT MOST 1048576: true; the input reads as it did. -/
def patchAloneUptoRow : OpenClaim := { program := "ytlmcfhokfiibkaagreatdoor", sum := "252b5dea0520b2c377ee8d86f1050416c086438c241c96a6547deb7ac0d61d7d", func := "cardbox/cardboxlaw09.PatchAlone", spec := "patchAlone", inPlace := ["internal/bytealg.IndexByteString", "internal/abi.NoEscape", "internal/bytealg.MakeNoZero", "internal/bytealg.CountString", "internal/bytealg.IndexString"], unfollowed := true, recurses := true, named := ["unicode/utf8.first", "unicode/utf8.acceptRanges", "unicode.CaseRanges", "internal/bytealg.MaxLen"], loops := true, apart := false, laid := [("unicode/utf8.acceptRanges", laid_unicode_utf8_acceptRanges), ("unicode.CaseRanges", laid_unicode_CaseRanges), ("unicode/utf8.first", laid_unicode_utf8_first)], narrowed := true }
def PatchAloneUptoSaid : Prop := patchAloneUptoRow.holds Tryz.pinned (OpenSpec.upto patchAloneSpec)

end Rows
end Go.Proofs.YtlmcfhokfiibkaaGreatDoor
