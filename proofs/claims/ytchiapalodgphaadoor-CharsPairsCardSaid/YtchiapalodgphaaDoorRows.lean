/-
  NARROWER THAN 'FOR EVERY INPUT', by the rows' own cells (each row's printed sentence says how): EmitKeeps: loops, laid · EmitLongs: loops, laid · CharsQuotes: laid · CharsReads: laid · CharsBack: laid · CharsAgain: laid · CharsPairs: laid · CharsBegins: laid.
  DERIVED. THE GIVEN ROWS OF THIS SEAT. 8 by the template 'for every input the law returns true; each argument reads behind the call as it read before'; 0 by the template 'total and deterministic' (their statements: YtchiapalodgphaaDoorTotals.lean).
  GIVEN WITH THE SEED: the statements are not yours to turn. If you find one false, say at which input.
  Laid BY PROGRAM, IN A SANDBOX (cutbox-rows.mjs): the forced cells as the released guide's own fill.sh prints them over the translation 62dc346765eaa3de… (all of the seat's roots in one cut). By AI agents, Wed Nov 11 2026. No macro, syntax, notation, axiom, sorry.
-/
import Derived.Test.YtchiapalodgphaaDoorChecked
import GoSem.PinnedTables
import GoSem.Claim
import GoSem.ClaimJoined
import GoSem.ClaimMapViews
import Derived.JoinedTies
import Derived.KernelRfl
namespace Go.Proofs.YtchiapalodgphaaDoor
/- THE CELL 'sum', in the pinned program and in every row, IS THE sha256 OF THE DUMP (.gsa) THAT YtchiapalodgphaaDoorProg.lean LOADS. Nothing in Lean hashes anything: it is a label: what it is worth is what the hold of that sum in a sandbox is worth. -/
noncomputable def Tryd.pinned : Pinned := { name := "ytchiapalodgphaadoor", sum := "62dc346765eaa3de95bd15d379cbda48cb0422662ca6e4cb25a2aedda93ffcab", checked := Tryd.checked }
namespace Rows
def none {H : Type} : Left H := { results := [], args := [] }

/- WHAT THE LISTED PACKAGE-LEVEL VARIABLES READ AS WHEN THE CALL BEGINS. Each datum BY PROGRAM (the guide's laid-datum.mjs) off the statement by which the dump's own 'gosem.cut.vars' lays the variable. In a bare row this is a premise. The card (YtchiapalodgphaaDoorCards.lean) ties it to the program's text. -/
def laid_cardbox_cardboxref02_points {H : Type} : DataW H := .agg [.lit (.int .i64 34), .lit (.int .i64 92), .lit (.int .i64 47), .lit (.int .i64 8), .lit (.int .i64 12), .lit (.int .i64 10), .lit (.int .i64 13), .lit (.int .i64 9)]
def laid_unicode_utf8_acceptRanges {H : Type} : DataW H := .agg [.agg [.lit (.int .u8 128), .lit (.int .u8 191)], .agg [.lit (.int .u8 160), .lit (.int .u8 191)], .agg [.lit (.int .u8 128), .lit (.int .u8 159)], .agg [.lit (.int .u8 144), .lit (.int .u8 191)], .agg [.lit (.int .u8 128), .lit (.int .u8 143)], .agg [.lit (.int .u8 0), .lit (.int .u8 0)], .agg [.lit (.int .u8 0), .lit (.int .u8 0)], .agg [.lit (.int .u8 0), .lit (.int .u8 0)], .agg [.lit (.int .u8 0), .lit (.int .u8 0)], .agg [.lit (.int .u8 0), .lit (.int .u8 0)], .agg [.lit (.int .u8 0), .lit (.int .u8 0)], .agg [.lit (.int .u8 0), .lit (.int .u8 0)], .agg [.lit (.int .u8 0), .lit (.int .u8 0)], .agg [.lit (.int .u8 0), .lit (.int .u8 0)], .agg [.lit (.int .u8 0), .lit (.int .u8 0)], .agg [.lit (.int .u8 0), .lit (.int .u8 0)]]
/-- One of Go's own tables, pinned by name: the form's constant. -/
def laid_unicode_CaseRanges : DataW Unit := Go.Pinned.caseRanges
/-- One of Go's own tables, pinned by name: the form's constant. -/
def laid_unicode_utf8_first : DataW Unit := Go.Pinned.utf8First

/-- 'cardboxlaw06.EmitKeeps': WHATEVER THE INPUT: true; the input reads as it did. -/
def emitKeepsSpec : ChangeSpec := { name := "emitKeeps", fn := fun _ => fun
  | [d] => { results := [.lit (.bool true)], args := [d] }
  | _ => none }
def emitKeepsRow : OpenClaim := { program := "ytchiapalodgphaadoor", sum := "62dc346765eaa3de95bd15d379cbda48cb0422662ca6e4cb25a2aedda93ffcab", func := "cardbox/cardboxlaw06.EmitKeeps", spec := "emitKeeps", recurses := true, named := ["cardbox/cardboxref02.points"], loops := true, apart := false, laid := [("cardbox/cardboxref02.points", laid_cardbox_cardboxref02_points)] }
def EmitKeepsSaid : Prop := emitKeepsRow.holds Tryd.pinned (OpenSpec.ofChange emitKeepsSpec)

/-- ITS FALSE NEIGHBOUR: 'it returns false'. Refute it at one input. -/
def emitKeepsWrong : ChangeSpec := { name := "emitKeeps", fn := fun _ => fun
  | [d] => { results := [.lit (.bool false)], args := [d] }
  | _ => none }
def EmitKeepsWrongFalsely : Prop := emitKeepsRow.holds Tryd.pinned (OpenSpec.ofChange emitKeepsWrong)

/-- 'cardboxlaw06.EmitLongs': WHATEVER THE INPUT: true; the input reads as it did. -/
def emitLongsSpec : ChangeSpec := { name := "emitLongs", fn := fun _ => fun
  | [d1, d2] => { results := [.lit (.bool true)], args := [d1, d2] }
  | _ => none }
def emitLongsRow : OpenClaim := { program := "ytchiapalodgphaadoor", sum := "62dc346765eaa3de95bd15d379cbda48cb0422662ca6e4cb25a2aedda93ffcab", func := "cardbox/cardboxlaw06.EmitLongs", spec := "emitLongs", recurses := true, named := ["cardbox/cardboxref02.points"], loops := true, apart := false, laid := [("cardbox/cardboxref02.points", laid_cardbox_cardboxref02_points)] }
def EmitLongsSaid : Prop := emitLongsRow.holds Tryd.pinned (OpenSpec.ofChange emitLongsSpec)

/-- ITS FALSE NEIGHBOUR: 'it returns false'. Refute it at one input. -/
def emitLongsWrong : ChangeSpec := { name := "emitLongs", fn := fun _ => fun
  | [d1, d2] => { results := [.lit (.bool false)], args := [d1, d2] }
  | _ => none }
def EmitLongsWrongFalsely : Prop := emitLongsRow.holds Tryd.pinned (OpenSpec.ofChange emitLongsWrong)

/-- 'cardboxlaw02.CharsQuotes': WHATEVER THE INPUT: true; the input reads as it did. -/
def charsQuotesSpec : ChangeSpec := { name := "charsQuotes", fn := fun _ => fun
  | [d] => { results := [.lit (.bool true)], args := [d] }
  | _ => none }
def charsQuotesRow : OpenClaim := { program := "ytchiapalodgphaadoor", sum := "62dc346765eaa3de95bd15d379cbda48cb0422662ca6e4cb25a2aedda93ffcab", func := "cardbox/cardboxlaw02.CharsQuotes", spec := "charsQuotes", inPlace := ["internal/abi.NoEscape", "internal/bytealg.MakeNoZero", "internal/bytealg.IndexByteString"], unfollowed := true, recurses := true, named := ["cardbox/cardboxref02.points", "unicode/utf8.first", "unicode/utf8.acceptRanges", "unicode.CaseRanges"], apart := false, laid := [("cardbox/cardboxref02.points", laid_cardbox_cardboxref02_points), ("unicode/utf8.acceptRanges", laid_unicode_utf8_acceptRanges), ("unicode.CaseRanges", laid_unicode_CaseRanges), ("unicode/utf8.first", laid_unicode_utf8_first)] }
def CharsQuotesSaid : Prop := charsQuotesRow.holds Tryd.pinned (OpenSpec.ofChange charsQuotesSpec)

/-- ITS FALSE NEIGHBOUR: 'it returns false'. Refute it at one input. -/
def charsQuotesWrong : ChangeSpec := { name := "charsQuotes", fn := fun _ => fun
  | [d] => { results := [.lit (.bool false)], args := [d] }
  | _ => none }
def CharsQuotesWrongFalsely : Prop := charsQuotesRow.holds Tryd.pinned (OpenSpec.ofChange charsQuotesWrong)

/-- 'cardboxlaw02.CharsReads': WHATEVER THE INPUT: true; the input reads as it did. -/
def charsReadsSpec : ChangeSpec := { name := "charsReads", fn := fun _ => fun
  | [d1, d2] => { results := [.lit (.bool true)], args := [d1, d2] }
  | _ => none }
def charsReadsRow : OpenClaim := { program := "ytchiapalodgphaadoor", sum := "62dc346765eaa3de95bd15d379cbda48cb0422662ca6e4cb25a2aedda93ffcab", func := "cardbox/cardboxlaw02.CharsReads", spec := "charsReads", inPlace := ["internal/abi.NoEscape", "internal/bytealg.MakeNoZero", "internal/bytealg.IndexByteString"], unfollowed := true, recurses := true, named := ["unicode/utf8.first", "unicode/utf8.acceptRanges", "unicode.CaseRanges", "cardbox/cardboxref02.points"], apart := false, laid := [("cardbox/cardboxref02.points", laid_cardbox_cardboxref02_points), ("unicode/utf8.acceptRanges", laid_unicode_utf8_acceptRanges), ("unicode.CaseRanges", laid_unicode_CaseRanges), ("unicode/utf8.first", laid_unicode_utf8_first)] }
def CharsReadsSaid : Prop := charsReadsRow.holds Tryd.pinned (OpenSpec.ofChange charsReadsSpec)

/-- ITS FALSE NEIGHBOUR: 'it returns false'. Refute it at one input. -/
def charsReadsWrong : ChangeSpec := { name := "charsReads", fn := fun _ => fun
  | [d1, d2] => { results := [.lit (.bool false)], args := [d1, d2] }
  | _ => none }
def CharsReadsWrongFalsely : Prop := charsReadsRow.holds Tryd.pinned (OpenSpec.ofChange charsReadsWrong)

/-- 'cardboxlaw02.CharsBack': WHATEVER THE INPUT: true; the input reads as it did. -/
def charsBackSpec : ChangeSpec := { name := "charsBack", fn := fun _ => fun
  | [d1, d2, d3] => { results := [.lit (.bool true)], args := [d1, d2, d3] }
  | _ => none }
def charsBackRow : OpenClaim := { program := "ytchiapalodgphaadoor", sum := "62dc346765eaa3de95bd15d379cbda48cb0422662ca6e4cb25a2aedda93ffcab", func := "cardbox/cardboxlaw02.CharsBack", spec := "charsBack", inPlace := ["internal/abi.NoEscape", "internal/bytealg.MakeNoZero", "internal/bytealg.IndexByteString"], unfollowed := true, recurses := true, named := ["unicode/utf8.first", "unicode/utf8.acceptRanges", "unicode.CaseRanges"], apart := false, laid := [("unicode/utf8.acceptRanges", laid_unicode_utf8_acceptRanges), ("unicode.CaseRanges", laid_unicode_CaseRanges), ("unicode/utf8.first", laid_unicode_utf8_first)] }
def CharsBackSaid : Prop := charsBackRow.holds Tryd.pinned (OpenSpec.ofChange charsBackSpec)

/-- ITS FALSE NEIGHBOUR: 'it returns false'. Refute it at one input. -/
def charsBackWrong : ChangeSpec := { name := "charsBack", fn := fun _ => fun
  | [d1, d2, d3] => { results := [.lit (.bool false)], args := [d1, d2, d3] }
  | _ => none }
def CharsBackWrongFalsely : Prop := charsBackRow.holds Tryd.pinned (OpenSpec.ofChange charsBackWrong)

/-- 'cardboxlaw02.CharsAgain': WHATEVER THE INPUT: true; the input reads as it did. -/
def charsAgainSpec : ChangeSpec := { name := "charsAgain", fn := fun _ => fun
  | [d1, d2] => { results := [.lit (.bool true)], args := [d1, d2] }
  | _ => none }
def charsAgainRow : OpenClaim := { program := "ytchiapalodgphaadoor", sum := "62dc346765eaa3de95bd15d379cbda48cb0422662ca6e4cb25a2aedda93ffcab", func := "cardbox/cardboxlaw02.CharsAgain", spec := "charsAgain", inPlace := ["internal/abi.NoEscape", "internal/bytealg.MakeNoZero", "internal/bytealg.IndexByteString"], unfollowed := true, recurses := true, named := ["unicode/utf8.first", "unicode/utf8.acceptRanges", "unicode.CaseRanges"], apart := false, laid := [("unicode/utf8.acceptRanges", laid_unicode_utf8_acceptRanges), ("unicode.CaseRanges", laid_unicode_CaseRanges), ("unicode/utf8.first", laid_unicode_utf8_first)] }
def CharsAgainSaid : Prop := charsAgainRow.holds Tryd.pinned (OpenSpec.ofChange charsAgainSpec)

/-- ITS FALSE NEIGHBOUR: 'it returns false'. Refute it at one input. -/
def charsAgainWrong : ChangeSpec := { name := "charsAgain", fn := fun _ => fun
  | [d1, d2] => { results := [.lit (.bool false)], args := [d1, d2] }
  | _ => none }
def CharsAgainWrongFalsely : Prop := charsAgainRow.holds Tryd.pinned (OpenSpec.ofChange charsAgainWrong)

/-- 'cardboxlaw02.CharsPairs': WHATEVER THE INPUT: true; the input reads as it did. -/
def charsPairsSpec : ChangeSpec := { name := "charsPairs", fn := fun _ => fun
  | [d1, d2] => { results := [.lit (.bool true)], args := [d1, d2] }
  | _ => none }
def charsPairsRow : OpenClaim := { program := "ytchiapalodgphaadoor", sum := "62dc346765eaa3de95bd15d379cbda48cb0422662ca6e4cb25a2aedda93ffcab", func := "cardbox/cardboxlaw02.CharsPairs", spec := "charsPairs", inPlace := ["internal/abi.NoEscape", "internal/bytealg.MakeNoZero", "internal/bytealg.IndexByteString"], unfollowed := true, recurses := true, named := ["unicode/utf8.first", "unicode/utf8.acceptRanges", "unicode.CaseRanges"], apart := false, laid := [("unicode/utf8.acceptRanges", laid_unicode_utf8_acceptRanges), ("unicode.CaseRanges", laid_unicode_CaseRanges), ("unicode/utf8.first", laid_unicode_utf8_first)] }
def CharsPairsSaid : Prop := charsPairsRow.holds Tryd.pinned (OpenSpec.ofChange charsPairsSpec)

/-- ITS FALSE NEIGHBOUR: 'it returns false'. Refute it at one input. -/
def charsPairsWrong : ChangeSpec := { name := "charsPairs", fn := fun _ => fun
  | [d1, d2] => { results := [.lit (.bool false)], args := [d1, d2] }
  | _ => none }
def CharsPairsWrongFalsely : Prop := charsPairsRow.holds Tryd.pinned (OpenSpec.ofChange charsPairsWrong)

/-- 'cardboxlaw02.CharsBegins': WHATEVER THE INPUT: true; the input reads as it did. -/
def charsBeginsSpec : ChangeSpec := { name := "charsBegins", fn := fun _ => fun
  | [d1, d2, d3] => { results := [.lit (.bool true)], args := [d1, d2, d3] }
  | _ => none }
def charsBeginsRow : OpenClaim := { program := "ytchiapalodgphaadoor", sum := "62dc346765eaa3de95bd15d379cbda48cb0422662ca6e4cb25a2aedda93ffcab", func := "cardbox/cardboxlaw02.CharsBegins", spec := "charsBegins", inPlace := ["internal/abi.NoEscape", "internal/bytealg.MakeNoZero", "internal/bytealg.IndexByteString"], unfollowed := true, recurses := true, named := ["unicode/utf8.first", "unicode/utf8.acceptRanges", "unicode.CaseRanges"], apart := false, laid := [("unicode/utf8.acceptRanges", laid_unicode_utf8_acceptRanges), ("unicode.CaseRanges", laid_unicode_CaseRanges), ("unicode/utf8.first", laid_unicode_utf8_first)] }
def CharsBeginsSaid : Prop := charsBeginsRow.holds Tryd.pinned (OpenSpec.ofChange charsBeginsSpec)

/-- ITS FALSE NEIGHBOUR: 'it returns false'. Refute it at one input. -/
def charsBeginsWrong : ChangeSpec := { name := "charsBegins", fn := fun _ => fun
  | [d1, d2, d3] => { results := [.lit (.bool false)], args := [d1, d2, d3] }
  | _ => none }
def CharsBeginsWrongFalsely : Prop := charsBeginsRow.holds Tryd.pinned (OpenSpec.ofChange charsBeginsWrong)

/- THE SECOND FORM. 'bulk': how many values and letters a reading holds, each counted each time it is reached (what is shared counts as often as it is met; a slice's spare places count too). A statement '..UptoSaid' is the law's where the arguments, and the package variables that the reading takes, are together of bulk at most 1048576: NARROWER than '..Said'. Prove '..Said' where nothing that the law and all that it calls make is longer than what came in: it says more and counts as full. Else prove '..UptoSaid'. A law counts once. -/
mutual
def uptoBulk {H : Type} : DataW H → Nat
  | .lit (.string bytes) => bytes.length + 1
  | .lit _ => 1
  | .nil => 1
  | .ptr d => uptoBulk d + 1
  | .slice elems spare => uptoBulkAll elems + uptoBulkAll spare + 1
  | .agg parts => uptoBulkAll parts + 1
  | .iface _ d => uptoBulk d + 1
  | .map entries => uptoBulkEntries entries + 1
  | .held _ => 1
def uptoBulkAll {H : Type} : List (DataW H) → Nat
  | [] => 0
  | d :: r => uptoBulk d + uptoBulkAll r
def uptoBulkEntries {H : Type} : List (Lit × DataW H) → Nat
  | [] => 0
  | x :: r => uptoBulkEntry x + uptoBulkEntries r
def uptoBulkEntry {H : Type} : Lit × DataW H → Nat
  | (.string bytes, d) => bytes.length + uptoBulk d + 1
  | (_, d) => uptoBulk d + 1
 end
def uptoSmall : (H : Type) → List (DataW H) → Bool := fun _ ds => decide (uptoBulkAll ds ≤ 1048576)
def OpenSpec.upto (s : _root_.Go.ChangeSpec) : _root_.Go.OpenSpec := { _root_.Go.OpenSpec.ofChange s with cond := some uptoSmall }

/-- 'cardboxlaw06.EmitKeeps', WHERE WHAT IT READS IS OF BULK AT MOST 1048576: true; the input reads as it did. -/
def emitKeepsUptoRow : OpenClaim := { program := "ytchiapalodgphaadoor", sum := "62dc346765eaa3de95bd15d379cbda48cb0422662ca6e4cb25a2aedda93ffcab", func := "cardbox/cardboxlaw06.EmitKeeps", spec := "emitKeeps", recurses := true, named := ["cardbox/cardboxref02.points"], loops := true, apart := false, laid := [("cardbox/cardboxref02.points", laid_cardbox_cardboxref02_points)], narrowed := true }
def EmitKeepsUptoSaid : Prop := emitKeepsUptoRow.holds Tryd.pinned (OpenSpec.upto emitKeepsSpec)

/-- 'cardboxlaw06.EmitLongs', WHERE WHAT IT READS IS OF BULK AT MOST 1048576: true; the input reads as it did. -/
def emitLongsUptoRow : OpenClaim := { program := "ytchiapalodgphaadoor", sum := "62dc346765eaa3de95bd15d379cbda48cb0422662ca6e4cb25a2aedda93ffcab", func := "cardbox/cardboxlaw06.EmitLongs", spec := "emitLongs", recurses := true, named := ["cardbox/cardboxref02.points"], loops := true, apart := false, laid := [("cardbox/cardboxref02.points", laid_cardbox_cardboxref02_points)], narrowed := true }
def EmitLongsUptoSaid : Prop := emitLongsUptoRow.holds Tryd.pinned (OpenSpec.upto emitLongsSpec)

/-- 'cardboxlaw02.CharsQuotes', WHERE WHAT IT READS IS OF BULK AT MOST 1048576: true; the input reads as it did. -/
def charsQuotesUptoRow : OpenClaim := { program := "ytchiapalodgphaadoor", sum := "62dc346765eaa3de95bd15d379cbda48cb0422662ca6e4cb25a2aedda93ffcab", func := "cardbox/cardboxlaw02.CharsQuotes", spec := "charsQuotes", inPlace := ["internal/abi.NoEscape", "internal/bytealg.MakeNoZero", "internal/bytealg.IndexByteString"], unfollowed := true, recurses := true, named := ["cardbox/cardboxref02.points", "unicode/utf8.first", "unicode/utf8.acceptRanges", "unicode.CaseRanges"], apart := false, laid := [("cardbox/cardboxref02.points", laid_cardbox_cardboxref02_points), ("unicode/utf8.acceptRanges", laid_unicode_utf8_acceptRanges), ("unicode.CaseRanges", laid_unicode_CaseRanges), ("unicode/utf8.first", laid_unicode_utf8_first)], narrowed := true }
def CharsQuotesUptoSaid : Prop := charsQuotesUptoRow.holds Tryd.pinned (OpenSpec.upto charsQuotesSpec)

/-- 'cardboxlaw02.CharsReads', WHERE WHAT IT READS IS OF BULK AT MOST 1048576: true; the input reads as it did. -/
def charsReadsUptoRow : OpenClaim := { program := "ytchiapalodgphaadoor", sum := "62dc346765eaa3de95bd15d379cbda48cb0422662ca6e4cb25a2aedda93ffcab", func := "cardbox/cardboxlaw02.CharsReads", spec := "charsReads", inPlace := ["internal/abi.NoEscape", "internal/bytealg.MakeNoZero", "internal/bytealg.IndexByteString"], unfollowed := true, recurses := true, named := ["unicode/utf8.first", "unicode/utf8.acceptRanges", "unicode.CaseRanges", "cardbox/cardboxref02.points"], apart := false, laid := [("cardbox/cardboxref02.points", laid_cardbox_cardboxref02_points), ("unicode/utf8.acceptRanges", laid_unicode_utf8_acceptRanges), ("unicode.CaseRanges", laid_unicode_CaseRanges), ("unicode/utf8.first", laid_unicode_utf8_first)], narrowed := true }
def CharsReadsUptoSaid : Prop := charsReadsUptoRow.holds Tryd.pinned (OpenSpec.upto charsReadsSpec)

/-- 'cardboxlaw02.CharsBack', WHERE WHAT IT READS IS OF BULK AT MOST 1048576: true; the input reads as it did. -/
def charsBackUptoRow : OpenClaim := { program := "ytchiapalodgphaadoor", sum := "62dc346765eaa3de95bd15d379cbda48cb0422662ca6e4cb25a2aedda93ffcab", func := "cardbox/cardboxlaw02.CharsBack", spec := "charsBack", inPlace := ["internal/abi.NoEscape", "internal/bytealg.MakeNoZero", "internal/bytealg.IndexByteString"], unfollowed := true, recurses := true, named := ["unicode/utf8.first", "unicode/utf8.acceptRanges", "unicode.CaseRanges"], apart := false, laid := [("unicode/utf8.acceptRanges", laid_unicode_utf8_acceptRanges), ("unicode.CaseRanges", laid_unicode_CaseRanges), ("unicode/utf8.first", laid_unicode_utf8_first)], narrowed := true }
def CharsBackUptoSaid : Prop := charsBackUptoRow.holds Tryd.pinned (OpenSpec.upto charsBackSpec)

/-- 'cardboxlaw02.CharsAgain', WHERE WHAT IT READS IS OF BULK AT MOST 1048576: true; the input reads as it did. -/
def charsAgainUptoRow : OpenClaim := { program := "ytchiapalodgphaadoor", sum := "62dc346765eaa3de95bd15d379cbda48cb0422662ca6e4cb25a2aedda93ffcab", func := "cardbox/cardboxlaw02.CharsAgain", spec := "charsAgain", inPlace := ["internal/abi.NoEscape", "internal/bytealg.MakeNoZero", "internal/bytealg.IndexByteString"], unfollowed := true, recurses := true, named := ["unicode/utf8.first", "unicode/utf8.acceptRanges", "unicode.CaseRanges"], apart := false, laid := [("unicode/utf8.acceptRanges", laid_unicode_utf8_acceptRanges), ("unicode.CaseRanges", laid_unicode_CaseRanges), ("unicode/utf8.first", laid_unicode_utf8_first)], narrowed := true }
def CharsAgainUptoSaid : Prop := charsAgainUptoRow.holds Tryd.pinned (OpenSpec.upto charsAgainSpec)

/-- 'cardboxlaw02.CharsPairs', WHERE WHAT IT READS IS OF BULK AT MOST 1048576: true; the input reads as it did. -/
def charsPairsUptoRow : OpenClaim := { program := "ytchiapalodgphaadoor", sum := "62dc346765eaa3de95bd15d379cbda48cb0422662ca6e4cb25a2aedda93ffcab", func := "cardbox/cardboxlaw02.CharsPairs", spec := "charsPairs", inPlace := ["internal/abi.NoEscape", "internal/bytealg.MakeNoZero", "internal/bytealg.IndexByteString"], unfollowed := true, recurses := true, named := ["unicode/utf8.first", "unicode/utf8.acceptRanges", "unicode.CaseRanges"], apart := false, laid := [("unicode/utf8.acceptRanges", laid_unicode_utf8_acceptRanges), ("unicode.CaseRanges", laid_unicode_CaseRanges), ("unicode/utf8.first", laid_unicode_utf8_first)], narrowed := true }
def CharsPairsUptoSaid : Prop := charsPairsUptoRow.holds Tryd.pinned (OpenSpec.upto charsPairsSpec)

/-- 'cardboxlaw02.CharsBegins', WHERE WHAT IT READS IS OF BULK AT MOST 1048576: true; the input reads as it did. -/
def charsBeginsUptoRow : OpenClaim := { program := "ytchiapalodgphaadoor", sum := "62dc346765eaa3de95bd15d379cbda48cb0422662ca6e4cb25a2aedda93ffcab", func := "cardbox/cardboxlaw02.CharsBegins", spec := "charsBegins", inPlace := ["internal/abi.NoEscape", "internal/bytealg.MakeNoZero", "internal/bytealg.IndexByteString"], unfollowed := true, recurses := true, named := ["unicode/utf8.first", "unicode/utf8.acceptRanges", "unicode.CaseRanges"], apart := false, laid := [("unicode/utf8.acceptRanges", laid_unicode_utf8_acceptRanges), ("unicode.CaseRanges", laid_unicode_CaseRanges), ("unicode/utf8.first", laid_unicode_utf8_first)], narrowed := true }
def CharsBeginsUptoSaid : Prop := charsBeginsUptoRow.holds Tryd.pinned (OpenSpec.upto charsBeginsSpec)

end Rows
end Go.Proofs.YtchiapalodgphaaDoor
