/-
  DERIVED. GIVEN WITH THE SEED: THE CARDS: each row of YtgncdjcbphobmaaDoorRows.lean that lists a variable, with what it lists TIED to the program's text (the seventh form; the later family's looks); each row that meets fmt, with fmt's text TOLD by the authors' own Lean function (tested against real Go, not proved from fmt's source: count such statements apart). THE CARD IS WHAT COUNTS. Prove the row's statement (the work); the ties are given (YtgncdjcbphobmaaDoorTie.lean); close each card by the builder's one call (the guide's Derived/Test/ToyasCard.lean, 'card_holds'). Laid BY PROGRAM, IN A SANDBOX (cutbox-door.mjs). By AI agents, Wed Nov 11 2026. No macro, syntax, notation, axiom, sorry.
-/
import Derived.Test.YtgncdjcbphobmaaDoorRows
import GoSem.ClaimSeven
namespace Go.Proofs.YtgncdjcbphobmaaDoor
namespace Rows

/-- THE TIED CARD OF 'cardboxlaw06.EmitKeeps'. -/
def emitKeepsCard : Claim7 := { stood := { row := emitKeepsRow, standIns := [], harness := (true, "6f14084f2980d1474e2059f07deee9bbb5137281ec4fe7248d3f3364895e89c6"), looks := true }, kinds := [], alts := [], laidByText := true, laidKinds := [.data], laidTests := true, laidLooks := .later }
def EmitKeepsCardSaid : Prop := Claim7.holds Tryd.pinned (.plain (OpenSpec.ofChange emitKeepsSpec)) emitKeepsCard

/-- THE TIED CARD OF 'cardboxlaw06.EmitLongs'. -/
def emitLongsCard : Claim7 := { stood := { row := emitLongsRow, standIns := [], harness := (true, "6f14084f2980d1474e2059f07deee9bbb5137281ec4fe7248d3f3364895e89c6"), looks := true }, kinds := [], alts := [], laidByText := true, laidKinds := [.data], laidTests := true, laidLooks := .later }
def EmitLongsCardSaid : Prop := Claim7.holds Tryd.pinned (.plain (OpenSpec.ofChange emitLongsSpec)) emitLongsCard

/-- THE TIED CARD OF 'cardboxlaw05.ReadValues'. -/
def readValuesCard : Claim7 := { stood := { row := readValuesRow, standIns := [], harness := (true, "6f14084f2980d1474e2059f07deee9bbb5137281ec4fe7248d3f3364895e89c6"), looks := true }, kinds := [], alts := [], laidByText := true, laidKinds := [.data, .data, .pinned, .pinned], laidTests := true, laidLooks := .later }
def ReadValuesCardSaid : Prop := Claim7.holds Tryd.pinned (.plain (OpenSpec.ofChange readValuesSpec)) readValuesCard

/-- THE TIED CARD OF 'cardboxlaw05.ReadSorts'. -/
def readSortsCard : Claim7 := { stood := { row := readSortsRow, standIns := [], harness := (true, "6f14084f2980d1474e2059f07deee9bbb5137281ec4fe7248d3f3364895e89c6"), looks := true }, kinds := [], alts := [], laidByText := true, laidKinds := [.data, .pinned, .pinned], laidTests := true, laidLooks := .later }
def ReadSortsCardSaid : Prop := Claim7.holds Tryd.pinned (.plain (OpenSpec.ofChange readSortsSpec)) readSortsCard

/-- THE TIED CARD OF 'cardboxlaw05.ReadWhite'. -/
def readWhiteCard : Claim7 := { stood := { row := readWhiteRow, standIns := [], harness := (true, "6f14084f2980d1474e2059f07deee9bbb5137281ec4fe7248d3f3364895e89c6"), looks := true }, kinds := [], alts := [], laidByText := true, laidKinds := [.data, .pinned, .pinned], laidTests := true, laidLooks := .later }
def ReadWhiteCardSaid : Prop := Claim7.holds Tryd.pinned (.plain (OpenSpec.ofChange readWhiteSpec)) readWhiteCard

/-- THE TIED CARD OF 'cardboxlaw05.ReadWrapped'. -/
def readWrappedCard : Claim7 := { stood := { row := readWrappedRow, standIns := [], harness := (true, "6f14084f2980d1474e2059f07deee9bbb5137281ec4fe7248d3f3364895e89c6"), looks := true }, kinds := [], alts := [], laidByText := true, laidKinds := [.data, .pinned, .pinned], laidTests := true, laidLooks := .later }
def ReadWrappedCardSaid : Prop := Claim7.holds Tryd.pinned (.plain (OpenSpec.ofChange readWrappedSpec)) readWrappedCard

/-- THE TIED CARD OF 'cardboxlaw05.ReadDeep'. -/
def readDeepCard : Claim7 := { stood := { row := readDeepRow, standIns := [], harness := (true, "6f14084f2980d1474e2059f07deee9bbb5137281ec4fe7248d3f3364895e89c6"), looks := true }, kinds := [], alts := [], laidByText := true, laidKinds := [.data, .pinned, .pinned], laidTests := true, laidLooks := .later }
def ReadDeepCardSaid : Prop := Claim7.holds Tryd.pinned (.plain (OpenSpec.ofChange readDeepSpec)) readDeepCard

/-- THE TIED CARD OF 'cardboxlaw05.ReadKeeps'. -/
def readKeepsCard : Claim7 := { stood := { row := readKeepsRow, standIns := [], harness := (true, "6f14084f2980d1474e2059f07deee9bbb5137281ec4fe7248d3f3364895e89c6"), looks := true }, kinds := [], alts := [], laidByText := true, laidKinds := [.data, .data, .pinned, .pinned], laidTests := true, laidLooks := .later }
def ReadKeepsCardSaid : Prop := Claim7.holds Tryd.pinned (.plain (OpenSpec.ofChange readKeepsSpec)) readKeepsCard

/-- THE TIED CARD OF 'cardboxlaw06.EmitBack'. -/
def emitBackCard : Claim7 := { stood := { row := emitBackRow, standIns := [], harness := (true, "6f14084f2980d1474e2059f07deee9bbb5137281ec4fe7248d3f3364895e89c6"), looks := true }, kinds := [], alts := [], laidByText := true, laidKinds := [.data, .pinned, .pinned], laidTests := true, laidLooks := .later }
def EmitBackCardSaid : Prop := Claim7.holds Tryd.pinned (.plain (OpenSpec.ofChange emitBackSpec)) emitBackCard

/-- THE SECOND FORM's CARD OF 'cardboxlaw06.EmitKeeps'. -/
def emitKeepsUptoCard : Claim7 := { stood := { row := emitKeepsUptoRow, standIns := [], harness := (true, "6f14084f2980d1474e2059f07deee9bbb5137281ec4fe7248d3f3364895e89c6"), looks := true }, kinds := [], alts := [], laidByText := true, laidKinds := [.data], laidTests := true, laidLooks := .later }
def EmitKeepsUptoCardSaid : Prop := Claim7.holds Tryd.pinned (.plain (OpenSpec.upto emitKeepsSpec)) emitKeepsUptoCard

/-- THE SECOND FORM's CARD OF 'cardboxlaw06.EmitLongs'. -/
def emitLongsUptoCard : Claim7 := { stood := { row := emitLongsUptoRow, standIns := [], harness := (true, "6f14084f2980d1474e2059f07deee9bbb5137281ec4fe7248d3f3364895e89c6"), looks := true }, kinds := [], alts := [], laidByText := true, laidKinds := [.data], laidTests := true, laidLooks := .later }
def EmitLongsUptoCardSaid : Prop := Claim7.holds Tryd.pinned (.plain (OpenSpec.upto emitLongsSpec)) emitLongsUptoCard

/-- THE SECOND FORM's CARD OF 'cardboxlaw05.ReadValues'. -/
def readValuesUptoCard : Claim7 := { stood := { row := readValuesUptoRow, standIns := [], harness := (true, "6f14084f2980d1474e2059f07deee9bbb5137281ec4fe7248d3f3364895e89c6"), looks := true }, kinds := [], alts := [], laidByText := true, laidKinds := [.data, .data, .pinned, .pinned], laidTests := true, laidLooks := .later }
def ReadValuesUptoCardSaid : Prop := Claim7.holds Tryd.pinned (.plain (OpenSpec.upto readValuesSpec)) readValuesUptoCard

/-- THE SECOND FORM's CARD OF 'cardboxlaw05.ReadSorts'. -/
def readSortsUptoCard : Claim7 := { stood := { row := readSortsUptoRow, standIns := [], harness := (true, "6f14084f2980d1474e2059f07deee9bbb5137281ec4fe7248d3f3364895e89c6"), looks := true }, kinds := [], alts := [], laidByText := true, laidKinds := [.data, .pinned, .pinned], laidTests := true, laidLooks := .later }
def ReadSortsUptoCardSaid : Prop := Claim7.holds Tryd.pinned (.plain (OpenSpec.upto readSortsSpec)) readSortsUptoCard

/-- THE SECOND FORM's CARD OF 'cardboxlaw05.ReadWhite'. -/
def readWhiteUptoCard : Claim7 := { stood := { row := readWhiteUptoRow, standIns := [], harness := (true, "6f14084f2980d1474e2059f07deee9bbb5137281ec4fe7248d3f3364895e89c6"), looks := true }, kinds := [], alts := [], laidByText := true, laidKinds := [.data, .pinned, .pinned], laidTests := true, laidLooks := .later }
def ReadWhiteUptoCardSaid : Prop := Claim7.holds Tryd.pinned (.plain (OpenSpec.upto readWhiteSpec)) readWhiteUptoCard

/-- THE SECOND FORM's CARD OF 'cardboxlaw05.ReadWrapped'. -/
def readWrappedUptoCard : Claim7 := { stood := { row := readWrappedUptoRow, standIns := [], harness := (true, "6f14084f2980d1474e2059f07deee9bbb5137281ec4fe7248d3f3364895e89c6"), looks := true }, kinds := [], alts := [], laidByText := true, laidKinds := [.data, .pinned, .pinned], laidTests := true, laidLooks := .later }
def ReadWrappedUptoCardSaid : Prop := Claim7.holds Tryd.pinned (.plain (OpenSpec.upto readWrappedSpec)) readWrappedUptoCard

/-- THE SECOND FORM's CARD OF 'cardboxlaw05.ReadDeep'. -/
def readDeepUptoCard : Claim7 := { stood := { row := readDeepUptoRow, standIns := [], harness := (true, "6f14084f2980d1474e2059f07deee9bbb5137281ec4fe7248d3f3364895e89c6"), looks := true }, kinds := [], alts := [], laidByText := true, laidKinds := [.data, .pinned, .pinned], laidTests := true, laidLooks := .later }
def ReadDeepUptoCardSaid : Prop := Claim7.holds Tryd.pinned (.plain (OpenSpec.upto readDeepSpec)) readDeepUptoCard

/-- THE SECOND FORM's CARD OF 'cardboxlaw05.ReadKeeps'. -/
def readKeepsUptoCard : Claim7 := { stood := { row := readKeepsUptoRow, standIns := [], harness := (true, "6f14084f2980d1474e2059f07deee9bbb5137281ec4fe7248d3f3364895e89c6"), looks := true }, kinds := [], alts := [], laidByText := true, laidKinds := [.data, .data, .pinned, .pinned], laidTests := true, laidLooks := .later }
def ReadKeepsUptoCardSaid : Prop := Claim7.holds Tryd.pinned (.plain (OpenSpec.upto readKeepsSpec)) readKeepsUptoCard

/-- THE SECOND FORM's CARD OF 'cardboxlaw06.EmitBack'. -/
def emitBackUptoCard : Claim7 := { stood := { row := emitBackUptoRow, standIns := [], harness := (true, "6f14084f2980d1474e2059f07deee9bbb5137281ec4fe7248d3f3364895e89c6"), looks := true }, kinds := [], alts := [], laidByText := true, laidKinds := [.data, .pinned, .pinned], laidTests := true, laidLooks := .later }
def EmitBackUptoCardSaid : Prop := Claim7.holds Tryd.pinned (.plain (OpenSpec.upto emitBackSpec)) emitBackUptoCard
end Rows
end Go.Proofs.YtgncdjcbphobmaaDoor
