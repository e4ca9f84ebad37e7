/-
  DERIVED. GIVEN WITH THE SEED: THE CARDS: each row of YtmalfecpcdopfaaDoorRows.lean that lists a variable, with what it lists TIED to the program's text (the seventh form; the later family's looks); each row that meets fmt, with fmt's text TOLD by the authors' own Lean function (tested against real Go, not proved from fmt's source: count such statements apart). THE CARD IS WHAT COUNTS. Prove the row's statement (the work); the ties are given (YtmalfecpcdopfaaDoorTie.lean); close each card by the builder's one call (the guide's Derived/Test/ToyasCard.lean, 'card_holds'). Laid BY PROGRAM, IN A SANDBOX (cutbox-door.mjs). By AI agents, Wed Nov 11 2026. No macro, syntax, notation, axiom, sorry.
-/
import Derived.Test.YtmalfecpcdopfaaDoorRows
import GoSem.ClaimSeven
namespace Go.Proofs.YtmalfecpcdopfaaDoor
namespace Rows

/-- THE TIED CARD OF 'cardboxlaw04.ScanReads'. -/
def scanReadsCard : Claim7 := { stood := { row := scanReadsRow, standIns := [], harness := (true, "c028834750183bae586c846cbdbd8114786c86a2ddad19d66558a2551c1987d4"), looks := false }, kinds := [], alts := [], laidByText := true, laidKinds := [.data, .data, .pinned, .pinned], laidTests := true, laidLooks := .later }
def ScanReadsCardSaid : Prop := Claim7.holds Tryd.pinned (.plain (OpenSpec.ofChange scanReadsSpec)) scanReadsCard

/-- THE TIED CARD OF 'cardboxlaw04.ScanBack'. -/
def scanBackCard : Claim7 := { stood := { row := scanBackRow, standIns := [], harness := (true, "c028834750183bae586c846cbdbd8114786c86a2ddad19d66558a2551c1987d4"), looks := false }, kinds := [], alts := [], laidByText := true, laidKinds := [.data, .data, .pinned, .pinned], laidTests := true, laidLooks := .later }
def ScanBackCardSaid : Prop := Claim7.holds Tryd.pinned (.plain (OpenSpec.ofChange scanBackSpec)) scanBackCard

/-- THE TIED CARD OF 'cardboxlaw04.ScanSplits'. -/
def scanSplitsCard : Claim7 := { stood := { row := scanSplitsRow, standIns := [], harness := (true, "c028834750183bae586c846cbdbd8114786c86a2ddad19d66558a2551c1987d4"), looks := false }, kinds := [], alts := [], laidByText := true, laidKinds := [.data, .pinned, .pinned], laidTests := true, laidLooks := .later }
def ScanSplitsCardSaid : Prop := Claim7.holds Tryd.pinned (.plain (OpenSpec.ofChange scanSplitsSpec)) scanSplitsCard

/-- THE TIED CARD OF 'cardboxlaw04.ScanPlaces'. -/
def scanPlacesCard : Claim7 := { stood := { row := scanPlacesRow, standIns := [], harness := (true, "c028834750183bae586c846cbdbd8114786c86a2ddad19d66558a2551c1987d4"), looks := false }, kinds := [], alts := [], laidByText := true, laidKinds := [.data, .pinned, .pinned], laidTests := true, laidLooks := .later }
def ScanPlacesCardSaid : Prop := Claim7.holds Tryd.pinned (.plain (OpenSpec.ofChange scanPlacesSpec)) scanPlacesCard

/-- THE TIED CARD OF 'cardboxlaw04.ScanKeeps'. -/
def scanKeepsCard : Claim7 := { stood := { row := scanKeepsRow, standIns := [], harness := (true, "c028834750183bae586c846cbdbd8114786c86a2ddad19d66558a2551c1987d4"), looks := false }, kinds := [], alts := [], laidByText := true, laidKinds := [.data, .pinned, .pinned], laidTests := true, laidLooks := .later }
def ScanKeepsCardSaid : Prop := Claim7.holds Tryd.pinned (.plain (OpenSpec.ofChange scanKeepsSpec)) scanKeepsCard

/-- THE SECOND FORM's CARD OF 'cardboxlaw04.ScanReads'. -/
def scanReadsUptoCard : Claim7 := { stood := { row := scanReadsUptoRow, standIns := [], harness := (true, "c028834750183bae586c846cbdbd8114786c86a2ddad19d66558a2551c1987d4"), looks := false }, kinds := [], alts := [], laidByText := true, laidKinds := [.data, .data, .pinned, .pinned], laidTests := true, laidLooks := .later }
def ScanReadsUptoCardSaid : Prop := Claim7.holds Tryd.pinned (.plain (OpenSpec.upto scanReadsSpec)) scanReadsUptoCard

/-- THE SECOND FORM's CARD OF 'cardboxlaw04.ScanBack'. -/
def scanBackUptoCard : Claim7 := { stood := { row := scanBackUptoRow, standIns := [], harness := (true, "c028834750183bae586c846cbdbd8114786c86a2ddad19d66558a2551c1987d4"), looks := false }, kinds := [], alts := [], laidByText := true, laidKinds := [.data, .data, .pinned, .pinned], laidTests := true, laidLooks := .later }
def ScanBackUptoCardSaid : Prop := Claim7.holds Tryd.pinned (.plain (OpenSpec.upto scanBackSpec)) scanBackUptoCard

/-- THE SECOND FORM's CARD OF 'cardboxlaw04.ScanSplits'. -/
def scanSplitsUptoCard : Claim7 := { stood := { row := scanSplitsUptoRow, standIns := [], harness := (true, "c028834750183bae586c846cbdbd8114786c86a2ddad19d66558a2551c1987d4"), looks := false }, kinds := [], alts := [], laidByText := true, laidKinds := [.data, .pinned, .pinned], laidTests := true, laidLooks := .later }
def ScanSplitsUptoCardSaid : Prop := Claim7.holds Tryd.pinned (.plain (OpenSpec.upto scanSplitsSpec)) scanSplitsUptoCard

/-- THE SECOND FORM's CARD OF 'cardboxlaw04.ScanPlaces'. -/
def scanPlacesUptoCard : Claim7 := { stood := { row := scanPlacesUptoRow, standIns := [], harness := (true, "c028834750183bae586c846cbdbd8114786c86a2ddad19d66558a2551c1987d4"), looks := false }, kinds := [], alts := [], laidByText := true, laidKinds := [.data, .pinned, .pinned], laidTests := true, laidLooks := .later }
def ScanPlacesUptoCardSaid : Prop := Claim7.holds Tryd.pinned (.plain (OpenSpec.upto scanPlacesSpec)) scanPlacesUptoCard

/-- THE SECOND FORM's CARD OF 'cardboxlaw04.ScanKeeps'. -/
def scanKeepsUptoCard : Claim7 := { stood := { row := scanKeepsUptoRow, standIns := [], harness := (true, "c028834750183bae586c846cbdbd8114786c86a2ddad19d66558a2551c1987d4"), looks := false }, kinds := [], alts := [], laidByText := true, laidKinds := [.data, .pinned, .pinned], laidTests := true, laidLooks := .later }
def ScanKeepsUptoCardSaid : Prop := Claim7.holds Tryd.pinned (.plain (OpenSpec.upto scanKeepsSpec)) scanKeepsUptoCard
end Rows
end Go.Proofs.YtmalfecpcdopfaaDoor
