/-
  DERIVED. GIVEN WITH THE SEED: THE CARDS: each row of YtockgemmkjdnkaaGreatDoorRows.lean that lists a variable, with what it lists TIED to the program's text (the seventh form; the later family's looks); each row that meets fmt, with fmt's text TOLD by the authors' own Lean function (tested against real Go, not proved from fmt's source: count such statements apart). THE CARD IS WHAT COUNTS. Prove the row's statement (the work); the ties are given (YtockgemmkjdnkaaGreatDoorTie.lean); close each card by the builder's one call (the guide's Derived/Test/ToyasCard.lean, 'card_holds'). Laid BY PROGRAM, IN A SANDBOX (cutbox-door.mjs). By AI agents, Wed Nov 11 2026. No macro, syntax, notation, axiom, sorry.
-/
import Derived.Test.YtockgemmkjdnkaaGreatDoorRows
import GoSem.ClaimSeven
namespace Go.Proofs.YtockgemmkjdnkaaGreatDoor
namespace Rows

/-- THE TIED CARD OF 'cardboxlaw25.EnvelopeParses'. -/
def envelopeParsesCard : Claim7 := { stood := { row := envelopeParsesRow, standIns := [], harness := (true, "23383cf84e3122f145eef2aafba0c18ff1159e855f77d30bee766ae599b98033"), looks := true }, kinds := [], alts := [], laidByText := true, laidKinds := [.data, .data, .pinned, .pinned], laidTests := true, laidLooks := .later }
def EnvelopeParsesCardSaid : Prop := Claim7.holds Tryz.pinned (.plain (OpenSpec.ofChange envelopeParsesSpec)) envelopeParsesCard

/-- THE TIED CARD OF 'cardboxlaw25.EnvelopeBack'. -/
def envelopeBackCard : Claim7 := { stood := { row := envelopeBackRow, standIns := [], harness := (true, "23383cf84e3122f145eef2aafba0c18ff1159e855f77d30bee766ae599b98033"), looks := true }, kinds := [], alts := [], laidByText := true, laidKinds := [.data, .pinned, .pinned], laidTests := true, laidLooks := .later }
def EnvelopeBackCardSaid : Prop := Claim7.holds Tryz.pinned (.plain (OpenSpec.ofChange envelopeBackSpec)) envelopeBackCard

/-- THE TIED CARD OF 'cardboxlaw25.EnvelopeKeeps'. -/
def envelopeKeepsCard : Claim7 := { stood := { row := envelopeKeepsRow, standIns := [], harness := (true, "23383cf84e3122f145eef2aafba0c18ff1159e855f77d30bee766ae599b98033"), looks := true }, kinds := [], alts := [], laidByText := true, laidKinds := [.data, .data, .pinned, .pinned], laidTests := true, laidLooks := .later }
def EnvelopeKeepsCardSaid : Prop := Claim7.holds Tryz.pinned (.plain (OpenSpec.ofChange envelopeKeepsSpec)) envelopeKeepsCard

/-- THE TIED CARD OF 'cardboxlaw25.EnvelopeMakes'. -/
def envelopeMakesCard : Claim7 := { stood := { row := envelopeMakesRow, standIns := [], harness := (true, "23383cf84e3122f145eef2aafba0c18ff1159e855f77d30bee766ae599b98033"), looks := true }, kinds := [], alts := [], laidByText := true, laidKinds := [.data, .pinned, .pinned], laidTests := true, laidLooks := .later }
def EnvelopeMakesCardSaid : Prop := Claim7.holds Tryz.pinned (.plain (OpenSpec.ofChange envelopeMakesSpec)) envelopeMakesCard

/-- THE SECOND FORM's CARD OF 'cardboxlaw25.EnvelopeParses'. -/
def envelopeParsesUptoCard : Claim7 := { stood := { row := envelopeParsesUptoRow, standIns := [], harness := (true, "23383cf84e3122f145eef2aafba0c18ff1159e855f77d30bee766ae599b98033"), looks := true }, kinds := [], alts := [], laidByText := true, laidKinds := [.data, .data, .pinned, .pinned], laidTests := true, laidLooks := .later }
def EnvelopeParsesUptoCardSaid : Prop := Claim7.holds Tryz.pinned (.plain (OpenSpec.upto envelopeParsesSpec)) envelopeParsesUptoCard

/-- THE SECOND FORM's CARD OF 'cardboxlaw25.EnvelopeBack'. -/
def envelopeBackUptoCard : Claim7 := { stood := { row := envelopeBackUptoRow, standIns := [], harness := (true, "23383cf84e3122f145eef2aafba0c18ff1159e855f77d30bee766ae599b98033"), looks := true }, kinds := [], alts := [], laidByText := true, laidKinds := [.data, .pinned, .pinned], laidTests := true, laidLooks := .later }
def EnvelopeBackUptoCardSaid : Prop := Claim7.holds Tryz.pinned (.plain (OpenSpec.upto envelopeBackSpec)) envelopeBackUptoCard

/-- THE SECOND FORM's CARD OF 'cardboxlaw25.EnvelopeKeeps'. -/
def envelopeKeepsUptoCard : Claim7 := { stood := { row := envelopeKeepsUptoRow, standIns := [], harness := (true, "23383cf84e3122f145eef2aafba0c18ff1159e855f77d30bee766ae599b98033"), looks := true }, kinds := [], alts := [], laidByText := true, laidKinds := [.data, .data, .pinned, .pinned], laidTests := true, laidLooks := .later }
def EnvelopeKeepsUptoCardSaid : Prop := Claim7.holds Tryz.pinned (.plain (OpenSpec.upto envelopeKeepsSpec)) envelopeKeepsUptoCard

/-- THE SECOND FORM's CARD OF 'cardboxlaw25.EnvelopeMakes'. -/
def envelopeMakesUptoCard : Claim7 := { stood := { row := envelopeMakesUptoRow, standIns := [], harness := (true, "23383cf84e3122f145eef2aafba0c18ff1159e855f77d30bee766ae599b98033"), looks := true }, kinds := [], alts := [], laidByText := true, laidKinds := [.data, .pinned, .pinned], laidTests := true, laidLooks := .later }
def EnvelopeMakesUptoCardSaid : Prop := Claim7.holds Tryz.pinned (.plain (OpenSpec.upto envelopeMakesSpec)) envelopeMakesUptoCard
end Rows
end Go.Proofs.YtockgemmkjdnkaaGreatDoor
