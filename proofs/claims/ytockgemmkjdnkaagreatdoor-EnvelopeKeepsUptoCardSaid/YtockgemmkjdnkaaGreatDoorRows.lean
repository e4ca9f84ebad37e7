/-
  NARROWER THAN 'FOR EVERY INPUT', by the rows' own cells (each row's printed sentence says how): EnvelopeParses: laid · EnvelopeBack: loops, laid · EnvelopeKeeps: loops, laid · EnvelopeMakes: loops, laid.
  DERIVED. THE GIVEN ROWS OF THIS SEAT. 4 by the template 'for every input the law returns true; each argument reads behind the call as it read before'; 0 by the template 'total and deterministic' (their statements: YtockgemmkjdnkaaGreatDoorTotals.lean).
  GIVEN WITH THE SEED: the statements are not yours to turn. If you find one false, say at which input.
  Laid BY PROGRAM, IN A SANDBOX (cutbox-rows.mjs): the forced cells as the released guide's own fill.sh prints them over the translation 1e509b60f2f4b755… (all of the seat's roots in one cut). By AI agents, Wed Nov 11 2026. No macro, syntax, notation, axiom, sorry.
-/
import Derived.Test.YtockgemmkjdnkaaGreatDoorChecked
import GoSem.PinnedTables
import GoSem.Claim
import GoSem.ClaimJoined
import GoSem.ClaimMapViews
import Derived.JoinedTies
import Derived.KernelRfl
namespace Go.Proofs.YtockgemmkjdnkaaGreatDoor
/- THE CELL 'sum', in the pinned program and in every row, IS THE sha256 OF THE DUMP (.gsa) THAT YtockgemmkjdnkaaGreatDoorProg.lean LOADS. Nothing in Lean hashes anything: it is a label: what it is worth is what the hold of that sum in a sandbox is worth. -/
noncomputable def Tryz.pinned : Pinned := { name := "ytockgemmkjdnkaagreatdoor", sum := "1e509b60f2f4b7553b7edb426e50aae6b628e9c5689b32f30fb660944abc8403", checked := Tryz.checked }
namespace Rows
def none {H : Type} : Left H := { results := [], args := [] }

/- WHAT THE LISTED PACKAGE-LEVEL VARIABLES READ AS WHEN THE CALL BEGINS. Each datum BY PROGRAM (the guide's laid-datum.mjs) off the statement by which the dump's own 'gosem.cut.vars' lays the variable. In a bare row this is a premise. The card (YtockgemmkjdnkaaGreatDoorCards.lean) ties it to the program's text. -/
def laid_cardbox_cardboxref02_points {H : Type} : DataW H := .agg [.lit (.int .i64 34), .lit (.int .i64 92), .lit (.int .i64 47), .lit (.int .i64 8), .lit (.int .i64 12), .lit (.int .i64 10), .lit (.int .i64 13), .lit (.int .i64 9)]
def laid_unicode_utf8_acceptRanges {H : Type} : DataW H := .agg [.agg [.lit (.int .u8 128), .lit (.int .u8 191)], .agg [.lit (.int .u8 160), .lit (.int .u8 191)], .agg [.lit (.int .u8 128), .lit (.int .u8 159)], .agg [.lit (.int .u8 144), .lit (.int .u8 191)], .agg [.lit (.int .u8 128), .lit (.int .u8 143)], .agg [.lit (.int .u8 0), .lit (.int .u8 0)], .agg [.lit (.int .u8 0), .lit (.int .u8 0)], .agg [.lit (.int .u8 0), .lit (.int .u8 0)], .agg [.lit (.int .u8 0), .lit (.int .u8 0)], .agg [.lit (.int .u8 0), .lit (.int .u8 0)], .agg [.lit (.int .u8 0), .lit (.int .u8 0)], .agg [.lit (.int .u8 0), .lit (.int .u8 0)], .agg [.lit (.int .u8 0), .lit (.int .u8 0)], .agg [.lit (.int .u8 0), .lit (.int .u8 0)], .agg [.lit (.int .u8 0), .lit (.int .u8 0)], .agg [.lit (.int .u8 0), .lit (.int .u8 0)]]
/-- One of Go's own tables, pinned by name: the form's constant. -/
def laid_unicode_CaseRanges : DataW Unit := Go.Pinned.caseRanges
/-- One of Go's own tables, pinned by name: the form's constant. -/
def laid_unicode_utf8_first : DataW Unit := Go.Pinned.utf8First

/-- 'cardboxlaw25.EnvelopeParses': WHATEVER THE INPUT: true; the input reads as it did. -/
def envelopeParsesSpec : ChangeSpec := { name := "envelopeParses", fn := fun _ => fun
  | [d] => { results := [.lit (.bool true)], args := [d] }
  | _ => none }
def envelopeParsesRow : OpenClaim := { program := "ytockgemmkjdnkaagreatdoor", sum := "1e509b60f2f4b7553b7edb426e50aae6b628e9c5689b32f30fb660944abc8403", func := "cardbox/cardboxlaw25.EnvelopeParses", spec := "envelopeParses", inPlace := ["internal/bytealg.IndexByteString", "internal/abi.NoEscape", "internal/bytealg.MakeNoZero"], unfollowed := true, recurses := true, named := ["unicode/utf8.first", "unicode/utf8.acceptRanges", "unicode.CaseRanges", "cardbox/cardboxref02.points"], apart := false, laid := [("cardbox/cardboxref02.points", laid_cardbox_cardboxref02_points), ("unicode/utf8.acceptRanges", laid_unicode_utf8_acceptRanges), ("unicode.CaseRanges", laid_unicode_CaseRanges), ("unicode/utf8.first", laid_unicode_utf8_first)] }
def EnvelopeParsesSaid : Prop := envelopeParsesRow.holds Tryz.pinned (OpenSpec.ofChange envelopeParsesSpec)

/-- ITS FALSE NEIGHBOUR: 'it returns false'. Refute it at one input. -/
def envelopeParsesWrong : ChangeSpec := { name := "envelopeParses", fn := fun _ => fun
  | [d] => { results := [.lit (.bool false)], args := [d] }
  | _ => none }
def EnvelopeParsesWrongFalsely : Prop := envelopeParsesRow.holds Tryz.pinned (OpenSpec.ofChange envelopeParsesWrong)

/-- 'cardboxlaw25.EnvelopeBack': WHATEVER THE INPUT: true; the input reads as it did. -/
def envelopeBackSpec : ChangeSpec := { name := "envelopeBack", fn := fun _ => fun
  | [d1, d2, d3] => { results := [.lit (.bool true)], args := [d1, d2, d3] }
  | _ => none }
def envelopeBackRow : OpenClaim := { program := "ytockgemmkjdnkaagreatdoor", sum := "1e509b60f2f4b7553b7edb426e50aae6b628e9c5689b32f30fb660944abc8403", func := "cardbox/cardboxlaw25.EnvelopeBack", spec := "envelopeBack", inPlace := ["internal/bytealg.IndexByteString", "internal/abi.NoEscape", "internal/bytealg.MakeNoZero"], unfollowed := true, recurses := true, named := ["unicode/utf8.first", "unicode/utf8.acceptRanges", "unicode.CaseRanges"], loops := true, apart := false, laid := [("unicode/utf8.acceptRanges", laid_unicode_utf8_acceptRanges), ("unicode.CaseRanges", laid_unicode_CaseRanges), ("unicode/utf8.first", laid_unicode_utf8_first)] }
def EnvelopeBackSaid : Prop := envelopeBackRow.holds Tryz.pinned (OpenSpec.ofChange envelopeBackSpec)

/-- ITS FALSE NEIGHBOUR: 'it returns false'. Refute it at one input. -/
def envelopeBackWrong : ChangeSpec := { name := "envelopeBack", fn := fun _ => fun
  | [d1, d2, d3] => { results := [.lit (.bool false)], args := [d1, d2, d3] }
  | _ => none }
def EnvelopeBackWrongFalsely : Prop := envelopeBackRow.holds Tryz.pinned (OpenSpec.ofChange envelopeBackWrong)

/-- 'cardboxlaw25.EnvelopeKeeps': WHATEVER THE INPUT: true; the input reads as it did. -/
def envelopeKeepsSpec : ChangeSpec := { name := "envelopeKeeps", fn := fun _ => fun
  | [d1, d2, d3] => { results := [.lit (.bool true)], args := [d1, d2, d3] }
  | _ => none }
def envelopeKeepsRow : OpenClaim := { program := "ytockgemmkjdnkaagreatdoor", sum := "1e509b60f2f4b7553b7edb426e50aae6b628e9c5689b32f30fb660944abc8403", func := "cardbox/cardboxlaw25.EnvelopeKeeps", spec := "envelopeKeeps", inPlace := ["internal/bytealg.IndexByteString", "internal/abi.NoEscape", "internal/bytealg.MakeNoZero"], unfollowed := true, recurses := true, named := ["unicode/utf8.first", "unicode/utf8.acceptRanges", "unicode.CaseRanges", "cardbox/cardboxref02.points"], loops := true, apart := false, laid := [("cardbox/cardboxref02.points", laid_cardbox_cardboxref02_points), ("unicode/utf8.acceptRanges", laid_unicode_utf8_acceptRanges), ("unicode.CaseRanges", laid_unicode_CaseRanges), ("unicode/utf8.first", laid_unicode_utf8_first)] }
def EnvelopeKeepsSaid : Prop := envelopeKeepsRow.holds Tryz.pinned (OpenSpec.ofChange envelopeKeepsSpec)

/-- ITS FALSE NEIGHBOUR: 'it returns false'. Refute it at one input. -/
def envelopeKeepsWrong : ChangeSpec := { name := "envelopeKeeps", fn := fun _ => fun
  | [d1, d2, d3] => { results := [.lit (.bool false)], args := [d1, d2, d3] }
  | _ => none }
def EnvelopeKeepsWrongFalsely : Prop := envelopeKeepsRow.holds Tryz.pinned (OpenSpec.ofChange envelopeKeepsWrong)

/-- 'cardboxlaw25.EnvelopeMakes': WHATEVER THE INPUT: true; the input reads as it did. -/
def envelopeMakesSpec : ChangeSpec := { name := "envelopeMakes", fn := fun _ => fun
  | [d1, d2, d3, d4, d5] => { results := [.lit (.bool true)], args := [d1, d2, d3, d4, d5] }
  | _ => none }
def envelopeMakesRow : OpenClaim := { program := "ytockgemmkjdnkaagreatdoor", sum := "1e509b60f2f4b7553b7edb426e50aae6b628e9c5689b32f30fb660944abc8403", func := "cardbox/cardboxlaw25.EnvelopeMakes", spec := "envelopeMakes", inPlace := ["internal/bytealg.IndexByteString", "internal/abi.NoEscape", "internal/bytealg.MakeNoZero"], unfollowed := true, recurses := true, named := ["unicode/utf8.first", "unicode/utf8.acceptRanges", "unicode.CaseRanges"], loops := true, apart := false, laid := [("unicode/utf8.acceptRanges", laid_unicode_utf8_acceptRanges), ("unicode.CaseRanges", laid_unicode_CaseRanges), ("unicode/utf8.first", laid_unicode_utf8_first)] }
def EnvelopeMakesSaid : Prop := envelopeMakesRow.holds Tryz.pinned (OpenSpec.ofChange envelopeMakesSpec)

/-- ITS FALSE NEIGHBOUR: 'it returns false'. Refute it at one input. -/
def envelopeMakesWrong : ChangeSpec := { name := "envelopeMakes", fn := fun _ => fun
  | [d1, d2, d3, d4, d5] => { results := [.lit (.bool false)], args := [d1, d2, d3, d4, d5] }
  | _ => none }
def EnvelopeMakesWrongFalsely : Prop := envelopeMakesRow.holds Tryz.pinned (OpenSpec.ofChange envelopeMakesWrong)

/- THE SECOND FORM. 'bulk': how many values and letters a reading holds, each counted each time it is reached (what is shared counts as often as it is met; a slice's spare places count too). A statement '..UptoSaid' is the law's where the arguments, and the package variables that the reading takes, are together of bulk at most 1048576: NARROWER than '..Said'. Prove '..Said' where nothing that the law and all that it calls make is longer than what came in: it says more and counts as full. Else prove '..UptoSaid'. A law counts once. -/
mutual
def uptoBulk {H : Type} : DataW H → Nat
  | .lit (.string bytes) => bytes.length + 1
  | .lit _ => 1
  | .nil => 1
  | .ptr d => uptoBulk d + 1
  | .slice elems spare => uptoBulkAll elems + uptoBulkAll spare + 1
  | .agg parts => uptoBulkAll parts + 1
  | .iface _ d => uptoBulk d + 1
  | .map entries => uptoBulkEntries entries + 1
  | .held _ => 1
def uptoBulkAll {H : Type} : List (DataW H) → Nat
  | [] => 0
  | d :: r => uptoBulk d + uptoBulkAll r
def uptoBulkEntries {H : Type} : List (Lit × DataW H) → Nat
  | [] => 0
  | x :: r => uptoBulkEntry x + uptoBulkEntries r
def uptoBulkEntry {H : Type} : Lit × DataW H → Nat
  | (.string bytes, d) => bytes.length + uptoBulk d + 1
  | (_, d) => uptoBulk d + 1
 end
def uptoSmall : (H : Type) → List (DataW H) → Bool := fun _ ds => decide (uptoBulkAll ds ≤ 1048576)
def OpenSpec.upto (s : _root_.Go.ChangeSpec) : _root_.Go.OpenSpec := { _root_.Go.OpenSpec.ofChange s with cond := some uptoSmall }

/-- 'cardboxlaw25.EnvelopeParses', WHERE WHAT IT READS IS OF BULK AT MOST 1048576: true; the input reads as it did. -/
def envelopeParsesUptoRow : OpenClaim := { program := "ytockgemmkjdnkaagreatdoor", sum := "1e509b60f2f4b7553b7edb426e50aae6b628e9c5689b32f30fb660944abc8403", func := "cardbox/cardboxlaw25.EnvelopeParses", spec := "envelopeParses", inPlace := ["internal/bytealg.IndexByteString", "internal/abi.NoEscape", "internal/bytealg.MakeNoZero"], unfollowed := true, recurses := true, named := ["unicode/utf8.first", "unicode/utf8.acceptRanges", "unicode.CaseRanges", "cardbox/cardboxref02.points"], apart := false, laid := [("cardbox/cardboxref02.points", laid_cardbox_cardboxref02_points), ("unicode/utf8.acceptRanges", laid_unicode_utf8_acceptRanges), ("unicode.CaseRanges", laid_unicode_CaseRanges), ("unicode/utf8.first", laid_unicode_utf8_first)], narrowed := true }
def EnvelopeParsesUptoSaid : Prop := envelopeParsesUptoRow.holds Tryz.pinned (OpenSpec.upto envelopeParsesSpec)

/-- 'cardboxlaw25.EnvelopeBack', WHERE WHAT IT READS IS OF BULK AT MOST 1048576: true; the input reads as it did. -/
def envelopeBackUptoRow : OpenClaim := { program := "ytockgemmkjdnkaagreatdoor", sum := "1e509b60f2f4b7553b7edb426e50aae6b628e9c5689b32f30fb660944abc8403", func := "cardbox/cardboxlaw25.EnvelopeBack", spec := "envelopeBack", inPlace := ["internal/bytealg.IndexByteString", "internal/abi.NoEscape", "internal/bytealg.MakeNoZero"], unfollowed := true, recurses := true, named := ["unicode/utf8.first", "unicode/utf8.acceptRanges", "unicode.CaseRanges"], loops := true, apart := false, laid := [("unicode/utf8.acceptRanges", laid_unicode_utf8_acceptRanges), ("unicode.CaseRanges", laid_unicode_CaseRanges), ("unicode/utf8.first", laid_unicode_utf8_first)], narrowed := true }
def EnvelopeBackUptoSaid : Prop := envelopeBackUptoRow.holds Tryz.pinned (OpenSpec.upto envelopeBackSpec)

/-- 'cardboxlaw25.EnvelopeKeeps', WHERE WHAT IT READS IS OF BULK AT MOST 1048576: true; the input reads as it did. -/
def envelopeKeepsUptoRow : OpenClaim := { program := "ytockgemmkjdnkaagreatdoor", sum := "1e509b60f2f4b7553b7edb426e50aae6b628e9c5689b32f30fb660944abc8403", func := "cardbox/cardboxlaw25.EnvelopeKeeps", spec := "envelopeKeeps", inPlace := ["internal/bytealg.IndexByteString", "internal/abi.NoEscape", "internal/bytealg.MakeNoZero"], unfollowed := true, recurses := true, named := ["unicode/utf8.first", "unicode/utf8.acceptRanges", "unicode.CaseRanges", "cardbox/cardboxref02.points"], loops := true, apart := false, laid := [("cardbox/cardboxref02.points", laid_cardbox_cardboxref02_points), ("unicode/utf8.acceptRanges", laid_unicode_utf8_acceptRanges), ("unicode.CaseRanges", laid_unicode_CaseRanges), ("unicode/utf8.first", laid_unicode_utf8_first)], narrowed := true }
def EnvelopeKeepsUptoSaid : Prop := envelopeKeepsUptoRow.holds Tryz.pinned (OpenSpec.upto envelopeKeepsSpec)

/-- 'cardboxlaw25.EnvelopeMakes', WHERE WHAT IT READS IS OF BULK AT MOST 1048576: true; the input reads as it did. -/
def envelopeMakesUptoRow : OpenClaim := { program := "ytockgemmkjdnkaagreatdoor", sum := "1e509b60f2f4b7553b7edb426e50aae6b628e9c5689b32f30fb660944abc8403", func := "cardbox/cardboxlaw25.EnvelopeMakes", spec := "envelopeMakes", inPlace := ["internal/bytealg.IndexByteString", "internal/abi.NoEscape", "internal/bytealg.MakeNoZero"], unfollowed := true, recurses := true, named := ["unicode/utf8.first", "unicode/utf8.acceptRanges", "unicode.CaseRanges"], loops := true, apart := false, laid := [("unicode/utf8.acceptRanges", laid_unicode_utf8_acceptRanges), ("unicode.CaseRanges", laid_unicode_CaseRanges), ("unicode/utf8.first", laid_unicode_utf8_first)], narrowed := true }
def EnvelopeMakesUptoSaid : Prop := envelopeMakesUptoRow.holds Tryz.pinned (OpenSpec.upto envelopeMakesSpec)

end Rows
end Go.Proofs.YtockgemmkjdnkaaGreatDoor
