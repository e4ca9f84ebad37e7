/-
  NARROWER THAN 'FOR EVERY INPUT', by the rows' own cells (each row's printed sentence says how): ScanReads: laid · ScanBack: laid · ScanSplits: laid · ScanPlaces: laid · ScanKeeps: laid.
  DERIVED. THE GIVEN ROWS OF THIS SEAT. 5 by the template 'for every input the law returns true; each argument reads behind the call as it read before'; 0 by the template 'total and deterministic' (their statements: YtmalfecpcdopfaaDoorTotals.lean).
  GIVEN WITH THE SEED: the statements are not yours to turn. If you find one false, say at which input.
  Laid BY PROGRAM, IN A SANDBOX (cutbox-rows.mjs): the forced cells as the released guide's own fill.sh prints them over the translation e1fbdcfae722d499… (all of the seat's roots in one cut). By AI agents, Wed Nov 11 2026. No macro, syntax, notation, axiom, sorry.
-/
import Derived.Test.YtmalfecpcdopfaaDoorChecked
import GoSem.PinnedTables
import GoSem.Claim
import GoSem.ClaimJoined
import GoSem.ClaimMapViews
import Derived.JoinedTies
import Derived.KernelRfl
namespace Go.Proofs.YtmalfecpcdopfaaDoor
/- THE CELL 'sum', in the pinned program and in every row, IS THE sha256 OF THE DUMP (.gsa) THAT YtmalfecpcdopfaaDoorProg.lean LOADS. Nothing in Lean hashes anything: it is a label: what it is worth is what the hold of that sum in a sandbox is worth. -/
noncomputable def Tryd.pinned : Pinned := { name := "ytmalfecpcdopfaadoor", sum := "e1fbdcfae722d4996ad3375ad44bae8e91db56458d60c7673b7d415362912e13", checked := Tryd.checked }
namespace Rows
def none {H : Type} : Left H := { results := [], args := [] }

/- WHAT THE LISTED PACKAGE-LEVEL VARIABLES READ AS WHEN THE CALL BEGINS. Each datum BY PROGRAM (the guide's laid-datum.mjs) off the statement by which the dump's own 'gosem.cut.vars' lays the variable. In a bare row this is a premise. The card (YtmalfecpcdopfaaDoorCards.lean) ties it to the program's text. -/
def laid_cardbox_cardboxref02_points {H : Type} : DataW H := .agg [.lit (.int .i64 34), .lit (.int .i64 92), .lit (.int .i64 47), .lit (.int .i64 8), .lit (.int .i64 12), .lit (.int .i64 10), .lit (.int .i64 13), .lit (.int .i64 9)]
def laid_unicode_utf8_acceptRanges {H : Type} : DataW H := .agg [.agg [.lit (.int .u8 128), .lit (.int .u8 191)], .agg [.lit (.int .u8 160), .lit (.int .u8 191)], .agg [.lit (.int .u8 128), .lit (.int .u8 159)], .agg [.lit (.int .u8 144), .lit (.int .u8 191)], .agg [.lit (.int .u8 128), .lit (.int .u8 143)], .agg [.lit (.int .u8 0), .lit (.int .u8 0)], .agg [.lit (.int .u8 0), .lit (.int .u8 0)], .agg [.lit (.int .u8 0), .lit (.int .u8 0)], .agg [.lit (.int .u8 0), .lit (.int .u8 0)], .agg [.lit (.int .u8 0), .lit (.int .u8 0)], .agg [.lit (.int .u8 0), .lit (.int .u8 0)], .agg [.lit (.int .u8 0), .lit (.int .u8 0)], .agg [.lit (.int .u8 0), .lit (.int .u8 0)], .agg [.lit (.int .u8 0), .lit (.int .u8 0)], .agg [.lit (.int .u8 0), .lit (.int .u8 0)], .agg [.lit (.int .u8 0), .lit (.int .u8 0)]]
/-- One of Go's own tables, pinned by name: the form's constant. -/
def laid_unicode_CaseRanges : DataW Unit := Go.Pinned.caseRanges
/-- One of Go's own tables, pinned by name: the form's constant. -/
def laid_unicode_utf8_first : DataW Unit := Go.Pinned.utf8First

/-- 'cardboxlaw04.ScanReads': WHATEVER THE INPUT: true; the input reads as it did. -/
def scanReadsSpec : ChangeSpec := { name := "scanReads", fn := fun _ => fun
  | [d] => { results := [.lit (.bool true)], args := [d] }
  | _ => none }
def scanReadsRow : OpenClaim := { program := "ytmalfecpcdopfaadoor", sum := "e1fbdcfae722d4996ad3375ad44bae8e91db56458d60c7673b7d415362912e13", func := "cardbox/cardboxlaw04.ScanReads", spec := "scanReads", inPlace := ["internal/bytealg.IndexByteString", "internal/abi.NoEscape", "internal/bytealg.MakeNoZero"], unfollowed := true, recurses := true, named := ["unicode/utf8.first", "unicode/utf8.acceptRanges", "unicode.CaseRanges", "cardbox/cardboxref02.points"], apart := false, laid := [("cardbox/cardboxref02.points", laid_cardbox_cardboxref02_points), ("unicode/utf8.acceptRanges", laid_unicode_utf8_acceptRanges), ("unicode.CaseRanges", laid_unicode_CaseRanges), ("unicode/utf8.first", laid_unicode_utf8_first)] }
def ScanReadsSaid : Prop := scanReadsRow.holds Tryd.pinned (OpenSpec.ofChange scanReadsSpec)

/-- ITS FALSE NEIGHBOUR: 'it returns false'. Refute it at one input. -/
def scanReadsWrong : ChangeSpec := { name := "scanReads", fn := fun _ => fun
  | [d] => { results := [.lit (.bool false)], args := [d] }
  | _ => none }
def ScanReadsWrongFalsely : Prop := scanReadsRow.holds Tryd.pinned (OpenSpec.ofChange scanReadsWrong)

/-- 'cardboxlaw04.ScanBack': WHATEVER THE INPUT: true; the input reads as it did. -/
def scanBackSpec : ChangeSpec := { name := "scanBack", fn := fun _ => fun
  | [d1, d2] => { results := [.lit (.bool true)], args := [d1, d2] }
  | _ => none }
def scanBackRow : OpenClaim := { program := "ytmalfecpcdopfaadoor", sum := "e1fbdcfae722d4996ad3375ad44bae8e91db56458d60c7673b7d415362912e13", func := "cardbox/cardboxlaw04.ScanBack", spec := "scanBack", inPlace := ["internal/bytealg.IndexByteString", "internal/abi.NoEscape", "internal/bytealg.MakeNoZero"], unfollowed := true, recurses := true, named := ["unicode/utf8.first", "unicode/utf8.acceptRanges", "unicode.CaseRanges", "cardbox/cardboxref02.points"], apart := false, laid := [("cardbox/cardboxref02.points", laid_cardbox_cardboxref02_points), ("unicode/utf8.acceptRanges", laid_unicode_utf8_acceptRanges), ("unicode.CaseRanges", laid_unicode_CaseRanges), ("unicode/utf8.first", laid_unicode_utf8_first)] }
def ScanBackSaid : Prop := scanBackRow.holds Tryd.pinned (OpenSpec.ofChange scanBackSpec)

/-- ITS FALSE NEIGHBOUR: 'it returns false'. Refute it at one input. -/
def scanBackWrong : ChangeSpec := { name := "scanBack", fn := fun _ => fun
  | [d1, d2] => { results := [.lit (.bool false)], args := [d1, d2] }
  | _ => none }
def ScanBackWrongFalsely : Prop := scanBackRow.holds Tryd.pinned (OpenSpec.ofChange scanBackWrong)

/-- 'cardboxlaw04.ScanSplits': WHATEVER THE INPUT: true; the input reads as it did. -/
def scanSplitsSpec : ChangeSpec := { name := "scanSplits", fn := fun _ => fun
  | [d1, d2] => { results := [.lit (.bool true)], args := [d1, d2] }
  | _ => none }
def scanSplitsRow : OpenClaim := { program := "ytmalfecpcdopfaadoor", sum := "e1fbdcfae722d4996ad3375ad44bae8e91db56458d60c7673b7d415362912e13", func := "cardbox/cardboxlaw04.ScanSplits", spec := "scanSplits", inPlace := ["internal/bytealg.IndexByteString", "internal/abi.NoEscape", "internal/bytealg.MakeNoZero"], unfollowed := true, recurses := true, named := ["unicode/utf8.first", "unicode/utf8.acceptRanges", "unicode.CaseRanges"], apart := false, laid := [("unicode/utf8.acceptRanges", laid_unicode_utf8_acceptRanges), ("unicode.CaseRanges", laid_unicode_CaseRanges), ("unicode/utf8.first", laid_unicode_utf8_first)] }
def ScanSplitsSaid : Prop := scanSplitsRow.holds Tryd.pinned (OpenSpec.ofChange scanSplitsSpec)

/-- ITS FALSE NEIGHBOUR: 'it returns false'. Refute it at one input. -/
def scanSplitsWrong : ChangeSpec := { name := "scanSplits", fn := fun _ => fun
  | [d1, d2] => { results := [.lit (.bool false)], args := [d1, d2] }
  | _ => none }
def ScanSplitsWrongFalsely : Prop := scanSplitsRow.holds Tryd.pinned (OpenSpec.ofChange scanSplitsWrong)

/-- 'cardboxlaw04.ScanPlaces': WHATEVER THE INPUT: true; the input reads as it did. -/
def scanPlacesSpec : ChangeSpec := { name := "scanPlaces", fn := fun _ => fun
  | [d] => { results := [.lit (.bool true)], args := [d] }
  | _ => none }
def scanPlacesRow : OpenClaim := { program := "ytmalfecpcdopfaadoor", sum := "e1fbdcfae722d4996ad3375ad44bae8e91db56458d60c7673b7d415362912e13", func := "cardbox/cardboxlaw04.ScanPlaces", spec := "scanPlaces", inPlace := ["internal/bytealg.IndexByteString", "internal/abi.NoEscape", "internal/bytealg.MakeNoZero"], unfollowed := true, recurses := true, named := ["unicode/utf8.first", "unicode/utf8.acceptRanges", "unicode.CaseRanges"], apart := false, laid := [("unicode/utf8.acceptRanges", laid_unicode_utf8_acceptRanges), ("unicode.CaseRanges", laid_unicode_CaseRanges), ("unicode/utf8.first", laid_unicode_utf8_first)] }
def ScanPlacesSaid : Prop := scanPlacesRow.holds Tryd.pinned (OpenSpec.ofChange scanPlacesSpec)

/-- ITS FALSE NEIGHBOUR: 'it returns false'. Refute it at one input. -/
def scanPlacesWrong : ChangeSpec := { name := "scanPlaces", fn := fun _ => fun
  | [d] => { results := [.lit (.bool false)], args := [d] }
  | _ => none }
def ScanPlacesWrongFalsely : Prop := scanPlacesRow.holds Tryd.pinned (OpenSpec.ofChange scanPlacesWrong)

/-- 'cardboxlaw04.ScanKeeps': WHATEVER THE INPUT: true; the input reads as it did. -/
def scanKeepsSpec : ChangeSpec := { name := "scanKeeps", fn := fun _ => fun
  | [d] => { results := [.lit (.bool true)], args := [d] }
  | _ => none }
def scanKeepsRow : OpenClaim := { program := "ytmalfecpcdopfaadoor", sum := "e1fbdcfae722d4996ad3375ad44bae8e91db56458d60c7673b7d415362912e13", func := "cardbox/cardboxlaw04.ScanKeeps", spec := "scanKeeps", inPlace := ["internal/bytealg.IndexByteString", "internal/abi.NoEscape", "internal/bytealg.MakeNoZero"], unfollowed := true, recurses := true, named := ["unicode/utf8.first", "unicode/utf8.acceptRanges", "unicode.CaseRanges"], apart := false, laid := [("unicode/utf8.acceptRanges", laid_unicode_utf8_acceptRanges), ("unicode.CaseRanges", laid_unicode_CaseRanges), ("unicode/utf8.first", laid_unicode_utf8_first)] }
def ScanKeepsSaid : Prop := scanKeepsRow.holds Tryd.pinned (OpenSpec.ofChange scanKeepsSpec)

/-- ITS FALSE NEIGHBOUR: 'it returns false'. Refute it at one input. -/
def scanKeepsWrong : ChangeSpec := { name := "scanKeeps", fn := fun _ => fun
  | [d] => { results := [.lit (.bool false)], args := [d] }
  | _ => none }
def ScanKeepsWrongFalsely : Prop := scanKeepsRow.holds Tryd.pinned (OpenSpec.ofChange scanKeepsWrong)

/- THE SECOND FORM. 'bulk': how many values and letters a reading holds, each counted each time it is reached (what is shared counts as often as it is met; a slice's spare places count too). A statement '..UptoSaid' is the law's where the arguments, and the package variables that the reading takes, are together of bulk at most 1048576: NARROWER than '..Said'. Prove '..Said' where nothing that the law and all that it calls make is longer than what came in: it says more and counts as full. Else prove '..UptoSaid'. A law counts once. -/
mutual
def uptoBulk {H : Type} : DataW H → Nat
  | .lit (.string bytes) => bytes.length + 1
  | .lit _ => 1
  | .nil => 1
  | .ptr d => uptoBulk d + 1
  | .slice elems spare => uptoBulkAll elems + uptoBulkAll spare + 1
  | .agg parts => uptoBulkAll parts + 1
  | .iface _ d => uptoBulk d + 1
  | .map entries => uptoBulkEntries entries + 1
  | .held _ => 1
def uptoBulkAll {H : Type} : List (DataW H) → Nat
  | [] => 0
  | d :: r => uptoBulk d + uptoBulkAll r
def uptoBulkEntries {H : Type} : List (Lit × DataW H) → Nat
  | [] => 0
  | x :: r => uptoBulkEntry x + uptoBulkEntries r
def uptoBulkEntry {H : Type} : Lit × DataW H → Nat
  | (.string bytes, d) => bytes.length + uptoBulk d + 1
  | (_, d) => uptoBulk d + 1
 end
def uptoSmall : (H : Type) → List (DataW H) → Bool := fun _ ds => decide (uptoBulkAll ds ≤ 1048576)
def OpenSpec.upto (s : _root_.Go.ChangeSpec) : _root_.Go.OpenSpec := { _root_.Go.OpenSpec.ofChange s with cond := some uptoSmall }

/-- 'cardboxlaw04.ScanReads', WHERE WHAT IT READS IS OF BULK AT MOST 1048576: true; the input reads as it did. -/
def scanReadsUptoRow : OpenClaim := { program := "ytmalfecpcdopfaadoor", sum := "e1fbdcfae722d4996ad3375ad44bae8e91db56458d60c7673b7d415362912e13", func := "cardbox/cardboxlaw04.ScanReads", spec := "scanReads", inPlace := ["internal/bytealg.IndexByteString", "internal/abi.NoEscape", "internal/bytealg.MakeNoZero"], unfollowed := true, recurses := true, named := ["unicode/utf8.first", "unicode/utf8.acceptRanges", "unicode.CaseRanges", "cardbox/cardboxref02.points"], apart := false, laid := [("cardbox/cardboxref02.points", laid_cardbox_cardboxref02_points), ("unicode/utf8.acceptRanges", laid_unicode_utf8_acceptRanges), ("unicode.CaseRanges", laid_unicode_CaseRanges), ("unicode/utf8.first", laid_unicode_utf8_first)], narrowed := true }
def ScanReadsUptoSaid : Prop := scanReadsUptoRow.holds Tryd.pinned (OpenSpec.upto scanReadsSpec)

/-- 'cardboxlaw04.ScanBack', WHERE WHAT IT READS IS OF BULK AT MOST 1048576: true; the input reads as it did. -/
def scanBackUptoRow : OpenClaim := { program := "ytmalfecpcdopfaadoor", sum := "e1fbdcfae722d4996ad3375ad44bae8e91db56458d60c7673b7d415362912e13", func := "cardbox/cardboxlaw04.ScanBack", spec := "scanBack", inPlace := ["internal/bytealg.IndexByteString", "internal/abi.NoEscape", "internal/bytealg.MakeNoZero"], unfollowed := true, recurses := true, named := ["unicode/utf8.first", "unicode/utf8.acceptRanges", "unicode.CaseRanges", "cardbox/cardboxref02.points"], apart := false, laid := [("cardbox/cardboxref02.points", laid_cardbox_cardboxref02_points), ("unicode/utf8.acceptRanges", laid_unicode_utf8_acceptRanges), ("unicode.CaseRanges", laid_unicode_CaseRanges), ("unicode/utf8.first", laid_unicode_utf8_first)], narrowed := true }
def ScanBackUptoSaid : Prop := scanBackUptoRow.holds Tryd.pinned (OpenSpec.upto scanBackSpec)

/-- 'cardboxlaw04.ScanSplits', WHERE WHAT IT READS IS OF BULK AT MOST 1048576: true; the input reads as it did. -/
def scanSplitsUptoRow : OpenClaim := { program := "ytmalfecpcdopfaadoor", sum := "e1fbdcfae722d4996ad3375ad44bae8e91db56458d60c7673b7d415362912e13", func := "cardbox/cardboxlaw04.ScanSplits", spec := "scanSplits", inPlace := ["internal/bytealg.IndexByteString", "internal/abi.NoEscape", "internal/bytealg.MakeNoZero"], unfollowed := true, recurses := true, named := ["unicode/utf8.first", "unicode/utf8.acceptRanges", "unicode.CaseRanges"], apart := false, laid := [("unicode/utf8.acceptRanges", laid_unicode_utf8_acceptRanges), ("unicode.CaseRanges", laid_unicode_CaseRanges), ("unicode/utf8.first", laid_unicode_utf8_first)], narrowed := true }
def ScanSplitsUptoSaid : Prop := scanSplitsUptoRow.holds Tryd.pinned (OpenSpec.upto scanSplitsSpec)

/-- 'cardboxlaw04.ScanPlaces', WHERE WHAT IT READS IS OF BULK AT MOST 1048576: true; the input reads as it did. -/
def scanPlacesUptoRow : OpenClaim := { program := "ytmalfecpcdopfaadoor", sum := "e1fbdcfae722d4996ad3375ad44bae8e91db56458d60c7673b7d415362912e13", func := "cardbox/cardboxlaw04.ScanPlaces", spec := "scanPlaces", inPlace := ["internal/bytealg.IndexByteString", "internal/abi.NoEscape", "internal/bytealg.MakeNoZero"], unfollowed := true, recurses := true, named := ["unicode/utf8.first", "unicode/utf8.acceptRanges", "unicode.CaseRanges"], apart := false, laid := [("unicode/utf8.acceptRanges", laid_unicode_utf8_acceptRanges), ("unicode.CaseRanges", laid_unicode_CaseRanges), ("unicode/utf8.first", laid_unicode_utf8_first)], narrowed := true }
def ScanPlacesUptoSaid : Prop := scanPlacesUptoRow.holds Tryd.pinned (OpenSpec.upto scanPlacesSpec)

/-- 'cardboxlaw04.ScanKeeps', WHERE WHAT IT READS IS OF BULK AT MOST 1048576: true; the input reads as it did. -/
def scanKeepsUptoRow : OpenClaim := { program := "ytmalfecpcdopfaadoor", sum := "e1fbdcfae722d4996ad3375ad44bae8e91db56458d60c7673b7d415362912e13", func := "cardbox/cardboxlaw04.ScanKeeps", spec := "scanKeeps", inPlace := ["internal/bytealg.IndexByteString", "internal/abi.NoEscape", "internal/bytealg.MakeNoZero"], unfollowed := true, recurses := true, named := ["unicode/utf8.first", "unicode/utf8.acceptRanges", "unicode.CaseRanges"], apart := false, laid := [("unicode/utf8.acceptRanges", laid_unicode_utf8_acceptRanges), ("unicode.CaseRanges", laid_unicode_CaseRanges), ("unicode/utf8.first", laid_unicode_utf8_first)], narrowed := true }
def ScanKeepsUptoSaid : Prop := scanKeepsUptoRow.holds Tryd.pinned (OpenSpec.upto scanKeepsSpec)

end Rows
end Go.Proofs.YtmalfecpcdopfaaDoor
