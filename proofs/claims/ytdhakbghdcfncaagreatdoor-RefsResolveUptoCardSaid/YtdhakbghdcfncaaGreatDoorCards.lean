/-
  DERIVED. GIVEN WITH THE SEED: THE CARDS: each row of YtdhakbghdcfncaaGreatDoorRows.lean that lists a variable, with what it lists TIED to the program's text (the seventh form; the later family's looks); each row that meets fmt, with fmt's text TOLD by the authors' own Lean function (tested against real Go, not proved from fmt's source: count such statements apart). THE CARD IS WHAT COUNTS. Prove the row's statement (the work); the ties are given (YtdhakbghdcfncaaGreatDoorTie.lean); close each card by the builder's one call (the guide's Derived/Test/ToyasCard.lean, 'card_holds'). Laid BY PROGRAM, IN A SANDBOX (cutbox-door.mjs). By AI agents, Wed Nov 11 2026. No macro, syntax, notation, axiom, sorry.
-/
import Derived.Test.YtdhakbghdcfncaaGreatDoorRows
import GoSem.ClaimSeven
namespace Go.Proofs.YtdhakbghdcfncaaGreatDoor
namespace Rows

/-- THE TIED CARD OF 'cardboxlaw24.RefsArgs'. -/
def refsArgsCard : Claim7 := { stood := { row := refsArgsRow, standIns := [], harness := (true, "f843a7be3e3b7b1c5d249f253d89324c6043f06f945cddddf1cc1cd5bc791a60"), looks := true }, kinds := [], alts := [], laidByText := true, laidKinds := [.data, .listed, .data, .pinned, .pinned], laidTests := true, laidLooks := .later }
def RefsArgsCardSaid : Prop := Claim7.holds Tryz.pinned (.plain (OpenSpec.ofChange refsArgsSpec)) refsArgsCard

/-- THE TIED CARD OF 'cardboxlaw24.RefsTwice'. -/
def refsTwiceCard : Claim7 := { stood := { row := refsTwiceRow, standIns := [], harness := (true, "f843a7be3e3b7b1c5d249f253d89324c6043f06f945cddddf1cc1cd5bc791a60"), looks := true }, kinds := [], alts := [], laidByText := true, laidKinds := [.data, .listed, .data, .pinned, .pinned], laidTests := true, laidLooks := .later }
def RefsTwiceCardSaid : Prop := Claim7.holds Tryz.pinned (.plain (OpenSpec.ofChange refsTwiceSpec)) refsTwiceCard

/-- THE TIED CARD OF 'cardboxlaw24.RefsKeeps'. -/
def refsKeepsCard : Claim7 := { stood := { row := refsKeepsRow, standIns := [], harness := (true, "f843a7be3e3b7b1c5d249f253d89324c6043f06f945cddddf1cc1cd5bc791a60"), looks := true }, kinds := [], alts := [], laidByText := true, laidKinds := [.data, .listed, .data, .pinned, .pinned], laidTests := true, laidLooks := .later }
def RefsKeepsCardSaid : Prop := Claim7.holds Tryz.pinned (.plain (OpenSpec.ofChange refsKeepsSpec)) refsKeepsCard

/-- THE TIED CARD OF 'cardboxlaw24.RefsResolve'. -/
def refsResolveCard : Claim7 := { stood := { row := refsResolveRow, standIns := [], harness := (true, "f843a7be3e3b7b1c5d249f253d89324c6043f06f945cddddf1cc1cd5bc791a60"), looks := true }, kinds := [], alts := [], laidByText := true, laidKinds := [.data, .listed, .data, .pinned, .pinned], laidTests := true, laidLooks := .later }
def RefsResolveCardSaid : Prop := Claim7.holds Tryz.pinned (.plain (OpenSpec.ofChange refsResolveSpec)) refsResolveCard

/-- THE SECOND FORM's CARD OF 'cardboxlaw24.RefsArgs'. -/
def refsArgsUptoCard : Claim7 := { stood := { row := refsArgsUptoRow, standIns := [], harness := (true, "f843a7be3e3b7b1c5d249f253d89324c6043f06f945cddddf1cc1cd5bc791a60"), looks := true }, kinds := [], alts := [], laidByText := true, laidKinds := [.data, .listed, .data, .pinned, .pinned], laidTests := true, laidLooks := .later }
def RefsArgsUptoCardSaid : Prop := Claim7.holds Tryz.pinned (.plain (OpenSpec.upto refsArgsSpec)) refsArgsUptoCard

/-- THE SECOND FORM's CARD OF 'cardboxlaw24.RefsTwice'. -/
def refsTwiceUptoCard : Claim7 := { stood := { row := refsTwiceUptoRow, standIns := [], harness := (true, "f843a7be3e3b7b1c5d249f253d89324c6043f06f945cddddf1cc1cd5bc791a60"), looks := true }, kinds := [], alts := [], laidByText := true, laidKinds := [.data, .listed, .data, .pinned, .pinned], laidTests := true, laidLooks := .later }
def RefsTwiceUptoCardSaid : Prop := Claim7.holds Tryz.pinned (.plain (OpenSpec.upto refsTwiceSpec)) refsTwiceUptoCard

/-- THE SECOND FORM's CARD OF 'cardboxlaw24.RefsKeeps'. -/
def refsKeepsUptoCard : Claim7 := { stood := { row := refsKeepsUptoRow, standIns := [], harness := (true, "f843a7be3e3b7b1c5d249f253d89324c6043f06f945cddddf1cc1cd5bc791a60"), looks := true }, kinds := [], alts := [], laidByText := true, laidKinds := [.data, .listed, .data, .pinned, .pinned], laidTests := true, laidLooks := .later }
def RefsKeepsUptoCardSaid : Prop := Claim7.holds Tryz.pinned (.plain (OpenSpec.upto refsKeepsSpec)) refsKeepsUptoCard

/-- THE SECOND FORM's CARD OF 'cardboxlaw24.RefsResolve'. -/
def refsResolveUptoCard : Claim7 := { stood := { row := refsResolveUptoRow, standIns := [], harness := (true, "f843a7be3e3b7b1c5d249f253d89324c6043f06f945cddddf1cc1cd5bc791a60"), looks := true }, kinds := [], alts := [], laidByText := true, laidKinds := [.data, .listed, .data, .pinned, .pinned], laidTests := true, laidLooks := .later }
def RefsResolveUptoCardSaid : Prop := Claim7.holds Tryz.pinned (.plain (OpenSpec.upto refsResolveSpec)) refsResolveUptoCard
end Rows
end Go.Proofs.YtdhakbghdcfncaaGreatDoor
