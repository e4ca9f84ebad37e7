/-
  DERIVED. GIVEN WITH THE SEED: THE CARDS: each row of YtchiapalodgphaaDoorRows.lean that lists a variable, with what it lists TIED to the program's text (the seventh form; the later family's looks); each row that meets fmt, with fmt's text TOLD by the authors' own Lean function (tested against real Go, not proved from fmt's source: count such statements apart). THE CARD IS WHAT COUNTS. Prove the row's statement (the work); the ties are given (YtchiapalodgphaaDoorTie.lean); close each card by the builder's one call (the guide's Derived/Test/ToyasCard.lean, 'card_holds'). Laid BY PROGRAM, IN A SANDBOX (cutbox-door.mjs). By AI agents, Wed Nov 11 2026. No macro, syntax, notation, axiom, sorry.
-/
import Derived.Test.YtchiapalodgphaaDoorRows
import GoSem.ClaimSeven
namespace Go.Proofs.YtchiapalodgphaaDoor
namespace Rows

/-- THE TIED CARD OF 'cardboxlaw06.EmitKeeps'. -/
def emitKeepsCard : Claim7 := { stood := { row := emitKeepsRow, standIns := [], harness := (true, "7fd7ea31db3aa2dd1c3d8a7149850ebe115092fa6c5284402f5b7d7aba75b7d3"), looks := false }, kinds := [], alts := [], laidByText := true, laidKinds := [.data], laidTests := true, laidLooks := .later }
def EmitKeepsCardSaid : Prop := Claim7.holds Tryd.pinned (.plain (OpenSpec.ofChange emitKeepsSpec)) emitKeepsCard

/-- THE TIED CARD OF 'cardboxlaw06.EmitLongs'. -/
def emitLongsCard : Claim7 := { stood := { row := emitLongsRow, standIns := [], harness := (true, "7fd7ea31db3aa2dd1c3d8a7149850ebe115092fa6c5284402f5b7d7aba75b7d3"), looks := false }, kinds := [], alts := [], laidByText := true, laidKinds := [.data], laidTests := true, laidLooks := .later }
def EmitLongsCardSaid : Prop := Claim7.holds Tryd.pinned (.plain (OpenSpec.ofChange emitLongsSpec)) emitLongsCard

/-- THE TIED CARD OF 'cardboxlaw02.CharsQuotes'. -/
def charsQuotesCard : Claim7 := { stood := { row := charsQuotesRow, standIns := [], harness := (true, "7fd7ea31db3aa2dd1c3d8a7149850ebe115092fa6c5284402f5b7d7aba75b7d3"), looks := false }, kinds := [], alts := [], laidByText := true, laidKinds := [.data, .data, .pinned, .pinned], laidTests := true, laidLooks := .later }
def CharsQuotesCardSaid : Prop := Claim7.holds Tryd.pinned (.plain (OpenSpec.ofChange charsQuotesSpec)) charsQuotesCard

/-- THE TIED CARD OF 'cardboxlaw02.CharsReads'. -/
def charsReadsCard : Claim7 := { stood := { row := charsReadsRow, standIns := [], harness := (true, "7fd7ea31db3aa2dd1c3d8a7149850ebe115092fa6c5284402f5b7d7aba75b7d3"), looks := false }, kinds := [], alts := [], laidByText := true, laidKinds := [.data, .data, .pinned, .pinned], laidTests := true, laidLooks := .later }
def CharsReadsCardSaid : Prop := Claim7.holds Tryd.pinned (.plain (OpenSpec.ofChange charsReadsSpec)) charsReadsCard

/-- THE TIED CARD OF 'cardboxlaw02.CharsBack'. -/
def charsBackCard : Claim7 := { stood := { row := charsBackRow, standIns := [], harness := (true, "7fd7ea31db3aa2dd1c3d8a7149850ebe115092fa6c5284402f5b7d7aba75b7d3"), looks := false }, kinds := [], alts := [], laidByText := true, laidKinds := [.data, .pinned, .pinned], laidTests := true, laidLooks := .later }
def CharsBackCardSaid : Prop := Claim7.holds Tryd.pinned (.plain (OpenSpec.ofChange charsBackSpec)) charsBackCard

/-- THE TIED CARD OF 'cardboxlaw02.CharsAgain'. -/
def charsAgainCard : Claim7 := { stood := { row := charsAgainRow, standIns := [], harness := (true, "7fd7ea31db3aa2dd1c3d8a7149850ebe115092fa6c5284402f5b7d7aba75b7d3"), looks := false }, kinds := [], alts := [], laidByText := true, laidKinds := [.data, .pinned, .pinned], laidTests := true, laidLooks := .later }
def CharsAgainCardSaid : Prop := Claim7.holds Tryd.pinned (.plain (OpenSpec.ofChange charsAgainSpec)) charsAgainCard

/-- THE TIED CARD OF 'cardboxlaw02.CharsPairs'. -/
def charsPairsCard : Claim7 := { stood := { row := charsPairsRow, standIns := [], harness := (true, "7fd7ea31db3aa2dd1c3d8a7149850ebe115092fa6c5284402f5b7d7aba75b7d3"), looks := false }, kinds := [], alts := [], laidByText := true, laidKinds := [.data, .pinned, .pinned], laidTests := true, laidLooks := .later }
def CharsPairsCardSaid : Prop := Claim7.holds Tryd.pinned (.plain (OpenSpec.ofChange charsPairsSpec)) charsPairsCard

/-- THE TIED CARD OF 'cardboxlaw02.CharsBegins'. -/
def charsBeginsCard : Claim7 := { stood := { row := charsBeginsRow, standIns := [], harness := (true, "7fd7ea31db3aa2dd1c3d8a7149850ebe115092fa6c5284402f5b7d7aba75b7d3"), looks := false }, kinds := [], alts := [], laidByText := true, laidKinds := [.data, .pinned, .pinned], laidTests := true, laidLooks := .later }
def CharsBeginsCardSaid : Prop := Claim7.holds Tryd.pinned (.plain (OpenSpec.ofChange charsBeginsSpec)) charsBeginsCard

/-- THE SECOND FORM's CARD OF 'cardboxlaw06.EmitKeeps'. -/
def emitKeepsUptoCard : Claim7 := { stood := { row := emitKeepsUptoRow, standIns := [], harness := (true, "7fd7ea31db3aa2dd1c3d8a7149850ebe115092fa6c5284402f5b7d7aba75b7d3"), looks := false }, kinds := [], alts := [], laidByText := true, laidKinds := [.data], laidTests := true, laidLooks := .later }
def EmitKeepsUptoCardSaid : Prop := Claim7.holds Tryd.pinned (.plain (OpenSpec.upto emitKeepsSpec)) emitKeepsUptoCard

/-- THE SECOND FORM's CARD OF 'cardboxlaw06.EmitLongs'. -/
def emitLongsUptoCard : Claim7 := { stood := { row := emitLongsUptoRow, standIns := [], harness := (true, "7fd7ea31db3aa2dd1c3d8a7149850ebe115092fa6c5284402f5b7d7aba75b7d3"), looks := false }, kinds := [], alts := [], laidByText := true, laidKinds := [.data], laidTests := true, laidLooks := .later }
def EmitLongsUptoCardSaid : Prop := Claim7.holds Tryd.pinned (.plain (OpenSpec.upto emitLongsSpec)) emitLongsUptoCard

/-- THE SECOND FORM's CARD OF 'cardboxlaw02.CharsQuotes'. -/
def charsQuotesUptoCard : Claim7 := { stood := { row := charsQuotesUptoRow, standIns := [], harness := (true, "7fd7ea31db3aa2dd1c3d8a7149850ebe115092fa6c5284402f5b7d7aba75b7d3"), looks := false }, kinds := [], alts := [], laidByText := true, laidKinds := [.data, .data, .pinned, .pinned], laidTests := true, laidLooks := .later }
def CharsQuotesUptoCardSaid : Prop := Claim7.holds Tryd.pinned (.plain (OpenSpec.upto charsQuotesSpec)) charsQuotesUptoCard

/-- THE SECOND FORM's CARD OF 'cardboxlaw02.CharsReads'. -/
def charsReadsUptoCard : Claim7 := { stood := { row := charsReadsUptoRow, standIns := [], harness := (true, "7fd7ea31db3aa2dd1c3d8a7149850ebe115092fa6c5284402f5b7d7aba75b7d3"), looks := false }, kinds := [], alts := [], laidByText := true, laidKinds := [.data, .data, .pinned, .pinned], laidTests := true, laidLooks := .later }
def CharsReadsUptoCardSaid : Prop := Claim7.holds Tryd.pinned (.plain (OpenSpec.upto charsReadsSpec)) charsReadsUptoCard

/-- THE SECOND FORM's CARD OF 'cardboxlaw02.CharsBack'. -/
def charsBackUptoCard : Claim7 := { stood := { row := charsBackUptoRow, standIns := [], harness := (true, "7fd7ea31db3aa2dd1c3d8a7149850ebe115092fa6c5284402f5b7d7aba75b7d3"), looks := false }, kinds := [], alts := [], laidByText := true, laidKinds := [.data, .pinned, .pinned], laidTests := true, laidLooks := .later }
def CharsBackUptoCardSaid : Prop := Claim7.holds Tryd.pinned (.plain (OpenSpec.upto charsBackSpec)) charsBackUptoCard

/-- THE SECOND FORM's CARD OF 'cardboxlaw02.CharsAgain'. -/
def charsAgainUptoCard : Claim7 := { stood := { row := charsAgainUptoRow, standIns := [], harness := (true, "7fd7ea31db3aa2dd1c3d8a7149850ebe115092fa6c5284402f5b7d7aba75b7d3"), looks := false }, kinds := [], alts := [], laidByText := true, laidKinds := [.data, .pinned, .pinned], laidTests := true, laidLooks := .later }
def CharsAgainUptoCardSaid : Prop := Claim7.holds Tryd.pinned (.plain (OpenSpec.upto charsAgainSpec)) charsAgainUptoCard

/-- THE SECOND FORM's CARD OF 'cardboxlaw02.CharsPairs'. -/
def charsPairsUptoCard : Claim7 := { stood := { row := charsPairsUptoRow, standIns := [], harness := (true, "7fd7ea31db3aa2dd1c3d8a7149850ebe115092fa6c5284402f5b7d7aba75b7d3"), looks := false }, kinds := [], alts := [], laidByText := true, laidKinds := [.data, .pinned, .pinned], laidTests := true, laidLooks := .later }
def CharsPairsUptoCardSaid : Prop := Claim7.holds Tryd.pinned (.plain (OpenSpec.upto charsPairsSpec)) charsPairsUptoCard

/-- THE SECOND FORM's CARD OF 'cardboxlaw02.CharsBegins'. -/
def charsBeginsUptoCard : Claim7 := { stood := { row := charsBeginsUptoRow, standIns := [], harness := (true, "7fd7ea31db3aa2dd1c3d8a7149850ebe115092fa6c5284402f5b7d7aba75b7d3"), looks := false }, kinds := [], alts := [], laidByText := true, laidKinds := [.data, .pinned, .pinned], laidTests := true, laidLooks := .later }
def CharsBeginsUptoCardSaid : Prop := Claim7.holds Tryd.pinned (.plain (OpenSpec.upto charsBeginsSpec)) charsBeginsUptoCard
end Rows
end Go.Proofs.YtchiapalodgphaaDoor
