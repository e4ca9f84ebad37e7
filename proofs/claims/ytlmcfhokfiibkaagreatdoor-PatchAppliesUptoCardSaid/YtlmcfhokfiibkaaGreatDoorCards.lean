/-
  DERIVED. GIVEN WITH THE SEED: THE CARDS: each row of YtlmcfhokfiibkaaGreatDoorRows.lean that lists a variable, with what it lists TIED to the program's text (the seventh form; the later family's looks); each row that meets fmt, with fmt's text TOLD by the authors' own Lean function (tested against real Go, not proved from fmt's source: count such statements apart). THE CARD IS WHAT COUNTS. Prove the row's statement (the work); the ties are given (YtlmcfhokfiibkaaGreatDoorTie.lean); close each card by the builder's one call (the guide's Derived/Test/ToyasCard.lean, 'card_holds'). Laid BY PROGRAM, IN A SANDBOX (cutbox-door.mjs). By AI agents, Wed Nov 11 2026. No macro, syntax, notation, axiom, sorry.
-/
import Derived.Test.YtlmcfhokfiibkaaGreatDoorRows
import GoSem.ClaimSeven
namespace Go.Proofs.YtlmcfhokfiibkaaGreatDoor
namespace Rows

/-- THE TIED CARD OF 'cardboxlaw09.PatchApplies'. -/
def patchAppliesCard : Claim7 := { stood := { row := patchAppliesRow, standIns := [], harness := (true, "7038ee5a63e0cf407608d3838733aa6fd46e9e6f1d0d270c7468bd178923531b"), looks := true }, kinds := [], alts := [], laidByText := true, laidKinds := [.data, .pinned, .pinned], laidTests := true, laidLooks := .later }
def PatchAppliesCardSaid : Prop := Claim7.holds Tryz.pinned (.plain (OpenSpec.ofChange patchAppliesSpec)) patchAppliesCard

/-- THE TIED CARD OF 'cardboxlaw09.PatchTurned'. -/
def patchTurnedCard : Claim7 := { stood := { row := patchTurnedRow, standIns := [], harness := (true, "7038ee5a63e0cf407608d3838733aa6fd46e9e6f1d0d270c7468bd178923531b"), looks := true }, kinds := [], alts := [], laidByText := true, laidKinds := [.data, .pinned, .pinned], laidTests := true, laidLooks := .later }
def PatchTurnedCardSaid : Prop := Claim7.holds Tryz.pinned (.plain (OpenSpec.ofChange patchTurnedSpec)) patchTurnedCard

/-- THE TIED CARD OF 'cardboxlaw09.PatchTwice'. -/
def patchTwiceCard : Claim7 := { stood := { row := patchTwiceRow, standIns := [], harness := (true, "7038ee5a63e0cf407608d3838733aa6fd46e9e6f1d0d270c7468bd178923531b"), looks := true }, kinds := [], alts := [], laidByText := true, laidKinds := [.data, .pinned, .pinned], laidTests := true, laidLooks := .later }
def PatchTwiceCardSaid : Prop := Claim7.holds Tryz.pinned (.plain (OpenSpec.ofChange patchTwiceSpec)) patchTwiceCard

/-- THE TIED CARD OF 'cardboxlaw09.PatchKeeps'. -/
def patchKeepsCard : Claim7 := { stood := { row := patchKeepsRow, standIns := [], harness := (true, "7038ee5a63e0cf407608d3838733aa6fd46e9e6f1d0d270c7468bd178923531b"), looks := true }, kinds := [], alts := [], laidByText := true, laidKinds := [.data, .pinned, .pinned], laidTests := true, laidLooks := .later }
def PatchKeepsCardSaid : Prop := Claim7.holds Tryz.pinned (.plain (OpenSpec.ofChange patchKeepsSpec)) patchKeepsCard

/-- THE TIED CARD OF 'cardboxlaw09.PatchWhole'. -/
def patchWholeCard : Claim7 := { stood := { row := patchWholeRow, standIns := [], harness := (true, "7038ee5a63e0cf407608d3838733aa6fd46e9e6f1d0d270c7468bd178923531b"), looks := true }, kinds := [], alts := [], laidByText := true, laidKinds := [.data, .pinned, .pinned], laidTests := true, laidLooks := .later }
def PatchWholeCardSaid : Prop := Claim7.holds Tryz.pinned (.plain (OpenSpec.ofChange patchWholeSpec)) patchWholeCard

/-- THE TIED CARD OF 'cardboxlaw09.PatchAlone'. -/
def patchAloneCard : Claim7 := { stood := { row := patchAloneRow, standIns := [], harness := (true, "7038ee5a63e0cf407608d3838733aa6fd46e9e6f1d0d270c7468bd178923531b"), looks := true }, kinds := [], alts := [], laidByText := true, laidKinds := [.data, .pinned, .pinned], laidTests := true, laidLooks := .later }
def PatchAloneCardSaid : Prop := Claim7.holds Tryz.pinned (.plain (OpenSpec.ofChange patchAloneSpec)) patchAloneCard

/-- THE SECOND FORM's CARD OF 'cardboxlaw09.PatchApplies'. -/
def patchAppliesUptoCard : Claim7 := { stood := { row := patchAppliesUptoRow, standIns := [], harness := (true, "7038ee5a63e0cf407608d3838733aa6fd46e9e6f1d0d270c7468bd178923531b"), looks := true }, kinds := [], alts := [], laidByText := true, laidKinds := [.data, .pinned, .pinned], laidTests := true, laidLooks := .later }
def PatchAppliesUptoCardSaid : Prop := Claim7.holds Tryz.pinned (.plain (OpenSpec.upto patchAppliesSpec)) patchAppliesUptoCard

/-- THE SECOND FORM's CARD OF 'cardboxlaw09.PatchTurned'. -/
def patchTurnedUptoCard : Claim7 := { stood := { row := patchTurnedUptoRow, standIns := [], harness := (true, "7038ee5a63e0cf407608d3838733aa6fd46e9e6f1d0d270c7468bd178923531b"), looks := true }, kinds := [], alts := [], laidByText := true, laidKinds := [.data, .pinned, .pinned], laidTests := true, laidLooks := .later }
def PatchTurnedUptoCardSaid : Prop := Claim7.holds Tryz.pinned (.plain (OpenSpec.upto patchTurnedSpec)) patchTurnedUptoCard

/-- THE SECOND FORM's CARD OF 'cardboxlaw09.PatchTwice'. -/
def patchTwiceUptoCard : Claim7 := { stood := { row := patchTwiceUptoRow, standIns := [], harness := (true, "7038ee5a63e0cf407608d3838733aa6fd46e9e6f1d0d270c7468bd178923531b"), looks := true }, kinds := [], alts := [], laidByText := true, laidKinds := [.data, .pinned, .pinned], laidTests := true, laidLooks := .later }
def PatchTwiceUptoCardSaid : Prop := Claim7.holds Tryz.pinned (.plain (OpenSpec.upto patchTwiceSpec)) patchTwiceUptoCard

/-- THE SECOND FORM's CARD OF 'cardboxlaw09.PatchKeeps'. -/
def patchKeepsUptoCard : Claim7 := { stood := { row := patchKeepsUptoRow, standIns := [], harness := (true, "7038ee5a63e0cf407608d3838733aa6fd46e9e6f1d0d270c7468bd178923531b"), looks := true }, kinds := [], alts := [], laidByText := true, laidKinds := [.data, .pinned, .pinned], laidTests := true, laidLooks := .later }
def PatchKeepsUptoCardSaid : Prop := Claim7.holds Tryz.pinned (.plain (OpenSpec.upto patchKeepsSpec)) patchKeepsUptoCard

/-- THE SECOND FORM's CARD OF 'cardboxlaw09.PatchWhole'. -/
def patchWholeUptoCard : Claim7 := { stood := { row := patchWholeUptoRow, standIns := [], harness := (true, "7038ee5a63e0cf407608d3838733aa6fd46e9e6f1d0d270c7468bd178923531b"), looks := true }, kinds := [], alts := [], laidByText := true, laidKinds := [.data, .pinned, .pinned], laidTests := true, laidLooks := .later }
def PatchWholeUptoCardSaid : Prop := Claim7.holds Tryz.pinned (.plain (OpenSpec.upto patchWholeSpec)) patchWholeUptoCard

/-- THE SECOND FORM's CARD OF 'cardboxlaw09.PatchAlone'. -/
def patchAloneUptoCard : Claim7 := { stood := { row := patchAloneUptoRow, standIns := [], harness := (true, "7038ee5a63e0cf407608d3838733aa6fd46e9e6f1d0d270c7468bd178923531b"), looks := true }, kinds := [], alts := [], laidByText := true, laidKinds := [.data, .pinned, .pinned], laidTests := true, laidLooks := .later }
def PatchAloneUptoCardSaid : Prop := Claim7.holds Tryz.pinned (.plain (OpenSpec.upto patchAloneSpec)) patchAloneUptoCard
end Rows
end Go.Proofs.YtlmcfhokfiibkaaGreatDoor
