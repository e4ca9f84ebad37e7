/-
  NARROWER THAN 'FOR EVERY INPUT', by the rows' own cells (each row's printed sentence says how): EmitKeeps: loops, laid · EmitLongs: loops, laid · ReadValues: laid · ReadSorts: laid · ReadWhite: laid · ReadWrapped: laid · ReadDeep: laid · ReadKeeps: laid · EmitBack: loops, laid.
  DERIVED. THE GIVEN ROWS OF THIS SEAT. 9 by the template 'for every input the law returns true; each argument reads behind the call as it read before'; 0 by the template 'total and deterministic' (their statements: YtgncdjcbphobmaaDoorTotals.lean).
  GIVEN WITH THE SEED: the statements are not yours to turn. If you find one false, say at which input.
  Laid BY PROGRAM, IN A SANDBOX (cutbox-rows.mjs): the forced cells as the released guide's own fill.sh prints them over the translation ccc78d591682d6ea… (all of the seat's roots in one cut). By AI agents, Wed Nov 11 2026. No macro, syntax, notation, axiom, sorry.
-/
import Derived.Test.YtgncdjcbphobmaaDoorChecked
import GoSem.PinnedTables
import GoSem.Claim
import GoSem.ClaimJoined
import GoSem.ClaimMapViews
import Derived.JoinedTies
import Derived.KernelRfl
namespace Go.Proofs.YtgncdjcbphobmaaDoor
/- THE CELL 'sum', in the pinned program and in every row, IS THE sha256 OF THE DUMP (.gsa) THAT YtgncdjcbphobmaaDoorProg.lean LOADS. Nothing in Lean hashes anything: it is a label: what it is worth is what the hold of that sum in a sandbox is worth. -/
noncomputable def Tryd.pinned : Pinned := { name := "ytgncdjcbphobmaadoor", sum := "ccc78d591682d6ea004f01896ae64a86a00d1e445b935f0e2017cc73e5d4d856", checked := Tryd.checked }
namespace Rows
def none {H : Type} : Left H := { results := [], args := [] }

/- WHAT THE LISTED PACKAGE-LEVEL VARIABLES READ AS WHEN THE CALL BEGINS. Each datum BY PROGRAM (the guide's laid-datum.mjs) off the statement by which the dump's own 'gosem.cut.vars' lays the variable. In a bare row this is a premise. The card (YtgncdjcbphobmaaDoorCards.lean) ties it to the program's text. -/
def laid_cardbox_cardboxref02_points {H : Type} : DataW H := .agg [.lit (.int .i64 34), .lit (.int .i64 92), .lit (.int .i64 47), .lit (.int .i64 8), .lit (.int .i64 12), .lit (.int .i64 10), .lit (.int .i64 13), .lit (.int .i64 9)]
def laid_unicode_utf8_acceptRanges {H : Type} : DataW H := .agg [.agg [.lit (.int .u8 128), .lit (.int .u8 191)], .agg [.lit (.int .u8 160), .lit (.int .u8 191)], .agg [.lit (.int .u8 128), .lit (.int .u8 159)], .agg [.lit (.int .u8 144), .lit (.int .u8 191)], .agg [.lit (.int .u8 128), .lit (.int .u8 143)], .agg [.lit (.int .u8 0), .lit (.int .u8 0)], .agg [.lit (.int .u8 0), .lit (.int .u8 0)], .agg [.lit (.int .u8 0), .lit (.int .u8 0)], .agg [.lit (.int .u8 0), .lit (.int .u8 0)], .agg [.lit (.int .u8 0), .lit (.int .u8 0)], .agg [.lit (.int .u8 0), .lit (.int .u8 0)], .agg [.lit (.int .u8 0), .lit (.int .u8 0)], .agg [.lit (.int .u8 0), .lit (.int .u8 0)], .agg [.lit (.int .u8 0), .lit (.int .u8 0)], .agg [.lit (.int .u8 0), .lit (.int .u8 0)], .agg [.lit (.int .u8 0), .lit (.int .u8 0)]]
/-- One of Go's own tables, pinned by name: the form's constant. -/
def laid_unicode_CaseRanges : DataW Unit := Go.Pinned.caseRanges
/-- One of Go's own tables, pinned by name: the form's constant. -/
def laid_unicode_utf8_first : DataW Unit := Go.Pinned.utf8First

/-- 'cardboxlaw06.EmitKeeps': WHATEVER THE INPUT: true; the input reads as it did. -/
def emitKeepsSpec : ChangeSpec := { name := "emitKeeps", fn := fun _ => fun
  | [d] => { results := [.lit (.bool true)], args := [d] }
  | _ => none }
def emitKeepsRow : OpenClaim := { program := "ytgncdjcbphobmaadoor", sum := "ccc78d591682d6ea004f01896ae64a86a00d1e445b935f0e2017cc73e5d4d856", func := "cardbox/cardboxlaw06.EmitKeeps", spec := "emitKeeps", recurses := true, named := ["cardbox/cardboxref02.points"], loops := true, apart := false, laid := [("cardbox/cardboxref02.points", laid_cardbox_cardboxref02_points)] }
def EmitKeepsSaid : Prop := emitKeepsRow.holds Tryd.pinned (OpenSpec.ofChange emitKeepsSpec)

/-- ITS FALSE NEIGHBOUR: 'it returns false'. Refute it at one input. -/
def emitKeepsWrong : ChangeSpec := { name := "emitKeeps", fn := fun _ => fun
  | [d] => { results := [.lit (.bool false)], args := [d] }
  | _ => none }
def EmitKeepsWrongFalsely : Prop := emitKeepsRow.holds Tryd.pinned (OpenSpec.ofChange emitKeepsWrong)

/-- 'cardboxlaw06.EmitLongs': WHATEVER THE INPUT: true; the input reads as it did. -/
def emitLongsSpec : ChangeSpec := { name := "emitLongs", fn := fun _ => fun
  | [d1, d2] => { results := [.lit (.bool true)], args := [d1, d2] }
  | _ => none }
def emitLongsRow : OpenClaim := { program := "ytgncdjcbphobmaadoor", sum := "ccc78d591682d6ea004f01896ae64a86a00d1e445b935f0e2017cc73e5d4d856", func := "cardbox/cardboxlaw06.EmitLongs", spec := "emitLongs", recurses := true, named := ["cardbox/cardboxref02.points"], loops := true, apart := false, laid := [("cardbox/cardboxref02.points", laid_cardbox_cardboxref02_points)] }
def EmitLongsSaid : Prop := emitLongsRow.holds Tryd.pinned (OpenSpec.ofChange emitLongsSpec)

/-- ITS FALSE NEIGHBOUR: 'it returns false'. Refute it at one input. -/
def emitLongsWrong : ChangeSpec := { name := "emitLongs", fn := fun _ => fun
  | [d1, d2] => { results := [.lit (.bool false)], args := [d1, d2] }
  | _ => none }
def EmitLongsWrongFalsely : Prop := emitLongsRow.holds Tryd.pinned (OpenSpec.ofChange emitLongsWrong)

/-- 'cardboxlaw05.ReadValues': WHATEVER THE INPUT: true; the input reads as it did. -/
def readValuesSpec : ChangeSpec := { name := "readValues", fn := fun _ => fun
  | [d] => { results := [.lit (.bool true)], args := [d] }
  | _ => none }
def readValuesRow : OpenClaim := { program := "ytgncdjcbphobmaadoor", sum := "ccc78d591682d6ea004f01896ae64a86a00d1e445b935f0e2017cc73e5d4d856", func := "cardbox/cardboxlaw05.ReadValues", spec := "readValues", inPlace := ["internal/bytealg.IndexByteString", "internal/abi.NoEscape", "internal/bytealg.MakeNoZero"], unfollowed := true, recurses := true, named := ["unicode/utf8.first", "unicode/utf8.acceptRanges", "unicode.CaseRanges", "cardbox/cardboxref02.points"], apart := false, laid := [("cardbox/cardboxref02.points", laid_cardbox_cardboxref02_points), ("unicode/utf8.acceptRanges", laid_unicode_utf8_acceptRanges), ("unicode.CaseRanges", laid_unicode_CaseRanges), ("unicode/utf8.first", laid_unicode_utf8_first)] }
def ReadValuesSaid : Prop := readValuesRow.holds Tryd.pinned (OpenSpec.ofChange readValuesSpec)

/-- ITS FALSE NEIGHBOUR: 'it returns false'. Refute it at one input. -/
def readValuesWrong : ChangeSpec := { name := "readValues", fn := fun _ => fun
  | [d] => { results := [.lit (.bool false)], args := [d] }
  | _ => none }
def ReadValuesWrongFalsely : Prop := readValuesRow.holds Tryd.pinned (OpenSpec.ofChange readValuesWrong)

/-- 'cardboxlaw05.ReadSorts': WHATEVER THE INPUT: true; the input reads as it did. -/
def readSortsSpec : ChangeSpec := { name := "readSorts", fn := fun _ => fun
  | [d] => { results := [.lit (.bool true)], args := [d] }
  | _ => none }
def readSortsRow : OpenClaim := { program := "ytgncdjcbphobmaadoor", sum := "ccc78d591682d6ea004f01896ae64a86a00d1e445b935f0e2017cc73e5d4d856", func := "cardbox/cardboxlaw05.ReadSorts", spec := "readSorts", inPlace := ["internal/bytealg.IndexByteString", "internal/abi.NoEscape", "internal/bytealg.MakeNoZero"], unfollowed := true, recurses := true, named := ["unicode/utf8.first", "unicode/utf8.acceptRanges", "unicode.CaseRanges"], apart := false, laid := [("unicode/utf8.acceptRanges", laid_unicode_utf8_acceptRanges), ("unicode.CaseRanges", laid_unicode_CaseRanges), ("unicode/utf8.first", laid_unicode_utf8_first)] }
def ReadSortsSaid : Prop := readSortsRow.holds Tryd.pinned (OpenSpec.ofChange readSortsSpec)

/-- ITS FALSE NEIGHBOUR: 'it returns false'. Refute it at one input. -/
def readSortsWrong : ChangeSpec := { name := "readSorts", fn := fun _ => fun
  | [d] => { results := [.lit (.bool false)], args := [d] }
  | _ => none }
def ReadSortsWrongFalsely : Prop := readSortsRow.holds Tryd.pinned (OpenSpec.ofChange readSortsWrong)

/-- 'cardboxlaw05.ReadWhite': WHATEVER THE INPUT: true; the input reads as it did. -/
def readWhiteSpec : ChangeSpec := { name := "readWhite", fn := fun _ => fun
  | [d1, d2] => { results := [.lit (.bool true)], args := [d1, d2] }
  | _ => none }
def readWhiteRow : OpenClaim := { program := "ytgncdjcbphobmaadoor", sum := "ccc78d591682d6ea004f01896ae64a86a00d1e445b935f0e2017cc73e5d4d856", func := "cardbox/cardboxlaw05.ReadWhite", spec := "readWhite", inPlace := ["internal/bytealg.IndexByteString", "internal/abi.NoEscape", "internal/bytealg.MakeNoZero"], unfollowed := true, recurses := true, named := ["unicode/utf8.first", "unicode/utf8.acceptRanges", "unicode.CaseRanges"], apart := false, laid := [("unicode/utf8.acceptRanges", laid_unicode_utf8_acceptRanges), ("unicode.CaseRanges", laid_unicode_CaseRanges), ("unicode/utf8.first", laid_unicode_utf8_first)] }
def ReadWhiteSaid : Prop := readWhiteRow.holds Tryd.pinned (OpenSpec.ofChange readWhiteSpec)

/-- ITS FALSE NEIGHBOUR: 'it returns false'. Refute it at one input. -/
def readWhiteWrong : ChangeSpec := { name := "readWhite", fn := fun _ => fun
  | [d1, d2] => { results := [.lit (.bool false)], args := [d1, d2] }
  | _ => none }
def ReadWhiteWrongFalsely : Prop := readWhiteRow.holds Tryd.pinned (OpenSpec.ofChange readWhiteWrong)

/-- 'cardboxlaw05.ReadWrapped': WHATEVER THE INPUT: true; the input reads as it did. -/
def readWrappedSpec : ChangeSpec := { name := "readWrapped", fn := fun _ => fun
  | [d] => { results := [.lit (.bool true)], args := [d] }
  | _ => none }
def readWrappedRow : OpenClaim := { program := "ytgncdjcbphobmaadoor", sum := "ccc78d591682d6ea004f01896ae64a86a00d1e445b935f0e2017cc73e5d4d856", func := "cardbox/cardboxlaw05.ReadWrapped", spec := "readWrapped", inPlace := ["internal/bytealg.IndexByteString", "internal/abi.NoEscape", "internal/bytealg.MakeNoZero"], unfollowed := true, recurses := true, named := ["unicode/utf8.first", "unicode/utf8.acceptRanges", "unicode.CaseRanges"], apart := false, laid := [("unicode/utf8.acceptRanges", laid_unicode_utf8_acceptRanges), ("unicode.CaseRanges", laid_unicode_CaseRanges), ("unicode/utf8.first", laid_unicode_utf8_first)] }
def ReadWrappedSaid : Prop := readWrappedRow.holds Tryd.pinned (OpenSpec.ofChange readWrappedSpec)

/-- ITS FALSE NEIGHBOUR: 'it returns false'. Refute it at one input. -/
def readWrappedWrong : ChangeSpec := { name := "readWrapped", fn := fun _ => fun
  | [d] => { results := [.lit (.bool false)], args := [d] }
  | _ => none }
def ReadWrappedWrongFalsely : Prop := readWrappedRow.holds Tryd.pinned (OpenSpec.ofChange readWrappedWrong)

/-- 'cardboxlaw05.ReadDeep': WHATEVER THE INPUT: true; the input reads as it did. -/
def readDeepSpec : ChangeSpec := { name := "readDeep", fn := fun _ => fun
  | [d] => { results := [.lit (.bool true)], args := [d] }
  | _ => none }
def readDeepRow : OpenClaim := { program := "ytgncdjcbphobmaadoor", sum := "ccc78d591682d6ea004f01896ae64a86a00d1e445b935f0e2017cc73e5d4d856", func := "cardbox/cardboxlaw05.ReadDeep", spec := "readDeep", inPlace := ["internal/bytealg.IndexByteString", "internal/abi.NoEscape", "internal/bytealg.MakeNoZero"], unfollowed := true, recurses := true, named := ["unicode/utf8.first", "unicode/utf8.acceptRanges", "unicode.CaseRanges"], apart := false, laid := [("unicode/utf8.acceptRanges", laid_unicode_utf8_acceptRanges), ("unicode.CaseRanges", laid_unicode_CaseRanges), ("unicode/utf8.first", laid_unicode_utf8_first)] }
def ReadDeepSaid : Prop := readDeepRow.holds Tryd.pinned (OpenSpec.ofChange readDeepSpec)

/-- ITS FALSE NEIGHBOUR: 'it returns false'. Refute it at one input. -/
def readDeepWrong : ChangeSpec := { name := "readDeep", fn := fun _ => fun
  | [d] => { results := [.lit (.bool false)], args := [d] }
  | _ => none }
def ReadDeepWrongFalsely : Prop := readDeepRow.holds Tryd.pinned (OpenSpec.ofChange readDeepWrong)

/-- 'cardboxlaw05.ReadKeeps': WHATEVER THE INPUT: true; the input reads as it did. -/
def readKeepsSpec : ChangeSpec := { name := "readKeeps", fn := fun _ => fun
  | [d] => { results := [.lit (.bool true)], args := [d] }
  | _ => none }
def readKeepsRow : OpenClaim := { program := "ytgncdjcbphobmaadoor", sum := "ccc78d591682d6ea004f01896ae64a86a00d1e445b935f0e2017cc73e5d4d856", func := "cardbox/cardboxlaw05.ReadKeeps", spec := "readKeeps", inPlace := ["internal/bytealg.IndexByteString", "internal/abi.NoEscape", "internal/bytealg.MakeNoZero"], unfollowed := true, recurses := true, named := ["cardbox/cardboxref02.points", "unicode/utf8.first", "unicode/utf8.acceptRanges", "unicode.CaseRanges"], apart := false, laid := [("cardbox/cardboxref02.points", laid_cardbox_cardboxref02_points), ("unicode/utf8.acceptRanges", laid_unicode_utf8_acceptRanges), ("unicode.CaseRanges", laid_unicode_CaseRanges), ("unicode/utf8.first", laid_unicode_utf8_first)] }
def ReadKeepsSaid : Prop := readKeepsRow.holds Tryd.pinned (OpenSpec.ofChange readKeepsSpec)

/-- ITS FALSE NEIGHBOUR: 'it returns false'. Refute it at one input. -/
def readKeepsWrong : ChangeSpec := { name := "readKeeps", fn := fun _ => fun
  | [d] => { results := [.lit (.bool false)], args := [d] }
  | _ => none }
def ReadKeepsWrongFalsely : Prop := readKeepsRow.holds Tryd.pinned (OpenSpec.ofChange readKeepsWrong)

/-- 'cardboxlaw06.EmitBack': WHATEVER THE INPUT: true; the input reads as it did. -/
def emitBackSpec : ChangeSpec := { name := "emitBack", fn := fun _ => fun
  | [d1, d2] => { results := [.lit (.bool true)], args := [d1, d2] }
  | _ => none }
def emitBackRow : OpenClaim := { program := "ytgncdjcbphobmaadoor", sum := "ccc78d591682d6ea004f01896ae64a86a00d1e445b935f0e2017cc73e5d4d856", func := "cardbox/cardboxlaw06.EmitBack", spec := "emitBack", inPlace := ["internal/bytealg.IndexByteString", "internal/abi.NoEscape", "internal/bytealg.MakeNoZero"], unfollowed := true, recurses := true, named := ["unicode/utf8.first", "unicode/utf8.acceptRanges", "unicode.CaseRanges"], loops := true, apart := false, laid := [("unicode/utf8.acceptRanges", laid_unicode_utf8_acceptRanges), ("unicode.CaseRanges", laid_unicode_CaseRanges), ("unicode/utf8.first", laid_unicode_utf8_first)] }
def EmitBackSaid : Prop := emitBackRow.holds Tryd.pinned (OpenSpec.ofChange emitBackSpec)

/-- ITS FALSE NEIGHBOUR: 'it returns false'. Refute it at one input. -/
def emitBackWrong : ChangeSpec := { name := "emitBack", fn := fun _ => fun
  | [d1, d2] => { results := [.lit (.bool false)], args := [d1, d2] }
  | _ => none }
def EmitBackWrongFalsely : Prop := emitBackRow.holds Tryd.pinned (OpenSpec.ofChange emitBackWrong)

/- THE SECOND FORM. 'bulk': how many values and letters a reading holds, each counted each time it is reached (what is shared counts as often as it is met; a slice's spare places count too). A statement '..UptoSaid' is the law's where the arguments, and the package variables that the reading takes, are together of bulk at most 1048576: NARROWER than '..Said'. Prove '..Said' where nothing that the law and all that it calls make is longer than what came in: it says more and counts as full. Else prove '..UptoSaid'. A law counts once. -/
mutual
def uptoBulk {H : Type} : DataW H → Nat
  | .lit (.string bytes) => bytes.length + 1
  | .lit _ => 1
  | .nil => 1
  | .ptr d => uptoBulk d + 1
  | .slice elems spare => uptoBulkAll elems + uptoBulkAll spare + 1
  | .agg parts => uptoBulkAll parts + 1
  | .iface _ d => uptoBulk d + 1
  | .map entries => uptoBulkEntries entries + 1
  | .held _ => 1
def uptoBulkAll {H : Type} : List (DataW H) → Nat
  | [] => 0
  | d :: r => uptoBulk d + uptoBulkAll r
def uptoBulkEntries {H : Type} : List (Lit × DataW H) → Nat
  | [] => 0
  | x :: r => uptoBulkEntry x + uptoBulkEntries r
def uptoBulkEntry {H : Type} : Lit × DataW H → Nat
  | (.string bytes, d) => bytes.length + uptoBulk d + 1
  | (_, d) => uptoBulk d + 1
 end
def uptoSmall : (H : Type) → List (DataW H) → Bool := fun _ ds => decide (uptoBulkAll ds ≤ 1048576)
def OpenSpec.upto (s : _root_.Go.ChangeSpec) : _root_.Go.OpenSpec := { _root_.Go.OpenSpec.ofChange s with cond := some uptoSmall }

/-- 'cardboxlaw06.EmitKeeps', WHERE WHAT IT READS IS OF BULK AT MOST 1048576: true; the input reads as it did. -/
def emitKeepsUptoRow : OpenClaim := { program := "ytgncdjcbphobmaadoor", sum := "ccc78d591682d6ea004f01896ae64a86a00d1e445b935f0e2017cc73e5d4d856", func := "cardbox/cardboxlaw06.EmitKeeps", spec := "emitKeeps", recurses := true, named := ["cardbox/cardboxref02.points"], loops := true, apart := false, laid := [("cardbox/cardboxref02.points", laid_cardbox_cardboxref02_points)], narrowed := true }
def EmitKeepsUptoSaid : Prop := emitKeepsUptoRow.holds Tryd.pinned (OpenSpec.upto emitKeepsSpec)

/-- 'cardboxlaw06.EmitLongs', WHERE WHAT IT READS IS OF BULK AT MOST 1048576: true; the input reads as it did. -/
def emitLongsUptoRow : OpenClaim := { program := "ytgncdjcbphobmaadoor", sum := "ccc78d591682d6ea004f01896ae64a86a00d1e445b935f0e2017cc73e5d4d856", func := "cardbox/cardboxlaw06.EmitLongs", spec := "emitLongs", recurses := true, named := ["cardbox/cardboxref02.points"], loops := true, apart := false, laid := [("cardbox/cardboxref02.points", laid_cardbox_cardboxref02_points)], narrowed := true }
def EmitLongsUptoSaid : Prop := emitLongsUptoRow.holds Tryd.pinned (OpenSpec.upto emitLongsSpec)

/-- 'cardboxlaw05.ReadValues', WHERE WHAT IT READS IS OF BULK AT MOST 1048576: true; the input reads as it did. -/
def readValuesUptoRow : OpenClaim := { program := "ytgncdjcbphobmaadoor", sum := "ccc78d591682d6ea004f01896ae64a86a00d1e445b935f0e2017cc73e5d4d856", func := "cardbox/cardboxlaw05.ReadValues", spec := "readValues", inPlace := ["internal/bytealg.IndexByteString", "internal/abi.NoEscape", "internal/bytealg.MakeNoZero"], unfollowed := true, recurses := true, named := ["unicode/utf8.first", "unicode/utf8.acceptRanges", "unicode.CaseRanges", "cardbox/cardboxref02.points"], apart := false, laid := [("cardbox/cardboxref02.points", laid_cardbox_cardboxref02_points), ("unicode/utf8.acceptRanges", laid_unicode_utf8_acceptRanges), ("unicode.CaseRanges", laid_unicode_CaseRanges), ("unicode/utf8.first", laid_unicode_utf8_first)], narrowed := true }
def ReadValuesUptoSaid : Prop := readValuesUptoRow.holds Tryd.pinned (OpenSpec.upto readValuesSpec)

/-- 'cardboxlaw05.ReadSorts', WHERE WHAT IT READS IS OF BULK AT MOST 1048576: true; the input reads as it did. -/
def readSortsUptoRow : OpenClaim := { program := "ytgncdjcbphobmaadoor", sum := "ccc78d591682d6ea004f01896ae64a86a00d1e445b935f0e2017cc73e5d4d856", func := "cardbox/cardboxlaw05.ReadSorts", spec := "readSorts", inPlace := ["internal/bytealg.IndexByteString", "internal/abi.NoEscape", "internal/bytealg.MakeNoZero"], unfollowed := true, recurses := true, named := ["unicode/utf8.first", "unicode/utf8.acceptRanges", "unicode.CaseRanges"], apart := false, laid := [("unicode/utf8.acceptRanges", laid_unicode_utf8_acceptRanges), ("unicode.CaseRanges", laid_unicode_CaseRanges), ("unicode/utf8.first", laid_unicode_utf8_first)], narrowed := true }
def ReadSortsUptoSaid : Prop := readSortsUptoRow.holds Tryd.pinned (OpenSpec.upto readSortsSpec)

/-- 'cardboxlaw05.ReadWhite', WHERE WHAT IT READS IS OF BULK AT MOST 1048576: true; the input reads as it did. -/
def readWhiteUptoRow : OpenClaim := { program := "ytgncdjcbphobmaadoor", sum := "ccc78d591682d6ea004f01896ae64a86a00d1e445b935f0e2017cc73e5d4d856", func := "cardbox/cardboxlaw05.ReadWhite", spec := "readWhite", inPlace := ["internal/bytealg.IndexByteString", "internal/abi.NoEscape", "internal/bytealg.MakeNoZero"], unfollowed := true, recurses := true, named := ["unicode/utf8.first", "unicode/utf8.acceptRanges", "unicode.CaseRanges"], apart := false, laid := [("unicode/utf8.acceptRanges", laid_unicode_utf8_acceptRanges), ("unicode.CaseRanges", laid_unicode_CaseRanges), ("unicode/utf8.first", laid_unicode_utf8_first)], narrowed := true }
def ReadWhiteUptoSaid : Prop := readWhiteUptoRow.holds Tryd.pinned (OpenSpec.upto readWhiteSpec)

/-- 'cardboxlaw05.ReadWrapped', WHERE WHAT IT READS IS OF BULK AT MOST 1048576: true; the input reads as it did. -/
def readWrappedUptoRow : OpenClaim := { program := "ytgncdjcbphobmaadoor", sum := "ccc78d591682d6ea004f01896ae64a86a00d1e445b935f0e2017cc73e5d4d856", func := "cardbox/cardboxlaw05.ReadWrapped", spec := "readWrapped", inPlace := ["internal/bytealg.IndexByteString", "internal/abi.NoEscape", "internal/bytealg.MakeNoZero"], unfollowed := true, recurses := true, named := ["unicode/utf8.first", "unicode/utf8.acceptRanges", "unicode.CaseRanges"], apart := false, laid := [("unicode/utf8.acceptRanges", laid_unicode_utf8_acceptRanges), ("unicode.CaseRanges", laid_unicode_CaseRanges), ("unicode/utf8.first", laid_unicode_utf8_first)], narrowed := true }
def ReadWrappedUptoSaid : Prop := readWrappedUptoRow.holds Tryd.pinned (OpenSpec.upto readWrappedSpec)

/-- 'cardboxlaw05.ReadDeep', WHERE WHAT IT READS IS OF BULK AT MOST 1048576: true; the input reads as it did. -/
def readDeepUptoRow : OpenClaim := { program := "ytgncdjcbphobmaadoor", sum := "ccc78d591682d6ea004f01896ae64a86a00d1e445b935f0e2017cc73e5d4d856", func := "cardbox/cardboxlaw05.ReadDeep", spec := "readDeep", inPlace := ["internal/bytealg.IndexByteString", "internal/abi.NoEscape", "internal/bytealg.MakeNoZero"], unfollowed := true, recurses := true, named := ["unicode/utf8.first", "unicode/utf8.acceptRanges", "unicode.CaseRanges"], apart := false, laid := [("unicode/utf8.acceptRanges", laid_unicode_utf8_acceptRanges), ("unicode.CaseRanges", laid_unicode_CaseRanges), ("unicode/utf8.first", laid_unicode_utf8_first)], narrowed := true }
def ReadDeepUptoSaid : Prop := readDeepUptoRow.holds Tryd.pinned (OpenSpec.upto readDeepSpec)

/-- 'cardboxlaw05.ReadKeeps', WHERE WHAT IT READS IS OF BULK AT MOST 1048576: true; the input reads as it did. -/
def readKeepsUptoRow : OpenClaim := { program := "ytgncdjcbphobmaadoor", sum := "ccc78d591682d6ea004f01896ae64a86a00d1e445b935f0e2017cc73e5d4d856", func := "cardbox/cardboxlaw05.ReadKeeps", spec := "readKeeps", inPlace := ["internal/bytealg.IndexByteString", "internal/abi.NoEscape", "internal/bytealg.MakeNoZero"], unfollowed := true, recurses := true, named := ["cardbox/cardboxref02.points", "unicode/utf8.first", "unicode/utf8.acceptRanges", "unicode.CaseRanges"], apart := false, laid := [("cardbox/cardboxref02.points", laid_cardbox_cardboxref02_points), ("unicode/utf8.acceptRanges", laid_unicode_utf8_acceptRanges), ("unicode.CaseRanges", laid_unicode_CaseRanges), ("unicode/utf8.first", laid_unicode_utf8_first)], narrowed := true }
def ReadKeepsUptoSaid : Prop := readKeepsUptoRow.holds Tryd.pinned (OpenSpec.upto readKeepsSpec)

/-- 'cardboxlaw06.EmitBack', WHERE WHAT IT READS IS OF BULK AT MOST 1048576: true; the input reads as it did. -/
def emitBackUptoRow : OpenClaim := { program := "ytgncdjcbphobmaadoor", sum := "ccc78d591682d6ea004f01896ae64a86a00d1e445b935f0e2017cc73e5d4d856", func := "cardbox/cardboxlaw06.EmitBack", spec := "emitBack", inPlace := ["internal/bytealg.IndexByteString", "internal/abi.NoEscape", "internal/bytealg.MakeNoZero"], unfollowed := true, recurses := true, named := ["unicode/utf8.first", "unicode/utf8.acceptRanges", "unicode.CaseRanges"], loops := true, apart := false, laid := [("unicode/utf8.acceptRanges", laid_unicode_utf8_acceptRanges), ("unicode.CaseRanges", laid_unicode_CaseRanges), ("unicode/utf8.first", laid_unicode_utf8_first)], narrowed := true }
def EmitBackUptoSaid : Prop := emitBackUptoRow.holds Tryd.pinned (OpenSpec.upto emitBackSpec)

end Rows
end Go.Proofs.YtgncdjcbphobmaaDoor
