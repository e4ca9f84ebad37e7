/-
  DERIVED. GIVEN WITH THE SEED: THE CARDS: each row of YtfjcgbbphkfkgaaDoorRows.lean that lists a variable, with what it lists TIED to the program's text (the seventh form; the later family's looks); each row that meets fmt, with fmt's text TOLD by the authors' own Lean function (tested against real Go, not proved from fmt's source: count such statements apart). THE CARD IS WHAT COUNTS. Prove the row's statement (the work); the ties are given (YtfjcgbbphkfkgaaDoorTie.lean); close each card by the builder's one call (the guide's Derived/Test/ToyasCard.lean, 'card_holds'). Laid BY PROGRAM, IN A SANDBOX (cutbox-door.mjs). By AI agents, Wed Nov 11 2026. No macro, syntax, notation, axiom, sorry.
-/
import Derived.Test.YtfjcgbbphkfkgaaDoorRows
import GoSem.ClaimSeven
namespace Go.Proofs.YtfjcgbbphkfkgaaDoor
namespace Rows

/-- THE TIED CARD OF 'cardboxlaw25.EnvelopeSorts'. -/
def envelopeSortsCard : Claim7 := { stood := { row := envelopeSortsRow, standIns := [], harness := (true, "ae72921c8cc70c3ac31f9b5f5dbcfec4a3701d34aefddcc98f313446dc7cc05d"), looks := true }, kinds := [], alts := [], laidByText := true, laidKinds := [.data, .pinned, .pinned], laidTests := true, laidLooks := .later }
def EnvelopeSortsCardSaid : Prop := Claim7.holds Tryd.pinned (.plain (OpenSpec.ofChange envelopeSortsSpec)) envelopeSortsCard

/-- THE TIED CARD OF 'cardboxlaw08.PointParts'. -/
def pointPartsCard : Claim7 := { stood := { row := pointPartsRow, standIns := [], harness := (true, "ae72921c8cc70c3ac31f9b5f5dbcfec4a3701d34aefddcc98f313446dc7cc05d"), looks := true }, kinds := [], alts := [], laidByText := true, laidKinds := [.data, .pinned, .pinned], laidTests := true, laidLooks := .later }
def PointPartsCardSaid : Prop := Claim7.holds Tryd.pinned (.plain (OpenSpec.ofChange pointPartsSpec)) pointPartsCard

/-- THE TIED CARD OF 'cardboxlaw08.PointWrites'. -/
def pointWritesCard : Claim7 := { stood := { row := pointWritesRow, standIns := [], harness := (true, "ae72921c8cc70c3ac31f9b5f5dbcfec4a3701d34aefddcc98f313446dc7cc05d"), looks := true }, kinds := [], alts := [], laidByText := true, laidKinds := [.data, .pinned, .pinned], laidTests := true, laidLooks := .later }
def PointWritesCardSaid : Prop := Claim7.holds Tryd.pinned (.plain (OpenSpec.ofChange pointWritesSpec)) pointWritesCard

/-- THE TIED CARD OF 'cardboxlaw08.PointKeeps'. -/
def pointKeepsCard : Claim7 := { stood := { row := pointKeepsRow, standIns := [], harness := (true, "ae72921c8cc70c3ac31f9b5f5dbcfec4a3701d34aefddcc98f313446dc7cc05d"), looks := true }, kinds := [], alts := [], laidByText := true, laidKinds := [.data, .pinned, .pinned], laidTests := true, laidLooks := .later }
def PointKeepsCardSaid : Prop := Claim7.holds Tryd.pinned (.plain (OpenSpec.ofChange pointKeepsSpec)) pointKeepsCard

/-- THE SECOND FORM's CARD OF 'cardboxlaw25.EnvelopeSorts'. -/
def envelopeSortsUptoCard : Claim7 := { stood := { row := envelopeSortsUptoRow, standIns := [], harness := (true, "ae72921c8cc70c3ac31f9b5f5dbcfec4a3701d34aefddcc98f313446dc7cc05d"), looks := true }, kinds := [], alts := [], laidByText := true, laidKinds := [.data, .pinned, .pinned], laidTests := true, laidLooks := .later }
def EnvelopeSortsUptoCardSaid : Prop := Claim7.holds Tryd.pinned (.plain (OpenSpec.upto envelopeSortsSpec)) envelopeSortsUptoCard

/-- THE SECOND FORM's CARD OF 'cardboxlaw08.PointParts'. -/
def pointPartsUptoCard : Claim7 := { stood := { row := pointPartsUptoRow, standIns := [], harness := (true, "ae72921c8cc70c3ac31f9b5f5dbcfec4a3701d34aefddcc98f313446dc7cc05d"), looks := true }, kinds := [], alts := [], laidByText := true, laidKinds := [.data, .pinned, .pinned], laidTests := true, laidLooks := .later }
def PointPartsUptoCardSaid : Prop := Claim7.holds Tryd.pinned (.plain (OpenSpec.upto pointPartsSpec)) pointPartsUptoCard

/-- THE SECOND FORM's CARD OF 'cardboxlaw08.PointWrites'. -/
def pointWritesUptoCard : Claim7 := { stood := { row := pointWritesUptoRow, standIns := [], harness := (true, "ae72921c8cc70c3ac31f9b5f5dbcfec4a3701d34aefddcc98f313446dc7cc05d"), looks := true }, kinds := [], alts := [], laidByText := true, laidKinds := [.data, .pinned, .pinned], laidTests := true, laidLooks := .later }
def PointWritesUptoCardSaid : Prop := Claim7.holds Tryd.pinned (.plain (OpenSpec.upto pointWritesSpec)) pointWritesUptoCard

/-- THE SECOND FORM's CARD OF 'cardboxlaw08.PointKeeps'. -/
def pointKeepsUptoCard : Claim7 := { stood := { row := pointKeepsUptoRow, standIns := [], harness := (true, "ae72921c8cc70c3ac31f9b5f5dbcfec4a3701d34aefddcc98f313446dc7cc05d"), looks := true }, kinds := [], alts := [], laidByText := true, laidKinds := [.data, .pinned, .pinned], laidTests := true, laidLooks := .later }
def PointKeepsUptoCardSaid : Prop := Claim7.holds Tryd.pinned (.plain (OpenSpec.upto pointKeepsSpec)) pointKeepsUptoCard
end Rows
end Go.Proofs.YtfjcgbbphkfkgaaDoor
