/-
  DERIVED. GIVEN WITH THE SEED: THE CARDS: each row of YtififgiicpdndaaGreatDoorRows.lean that lists a variable, with what it lists TIED to the program's text (the seventh form; the later family's looks); each row that meets fmt, with fmt's text TOLD by the authors' own Lean function (tested against real Go, not proved from fmt's source: count such statements apart). THE CARD IS WHAT COUNTS. Prove the row's statement (the work); the ties are given (YtififgiicpdndaaGreatDoorTie.lean); close each card by the builder's one call (the guide's Derived/Test/ToyasCard.lean, 'card_holds'). Laid BY PROGRAM, IN A SANDBOX (cutbox-door.mjs). By AI agents, Wed Nov 11 2026. No macro, syntax, notation, axiom, sorry.
-/
import Derived.Test.YtififgiicpdndaaGreatDoorRows
import GoSem.ClaimSeven
namespace Go.Proofs.YtififgiicpdndaaGreatDoor
namespace Rows

/-- THE TIED CARD OF 'bywashlaw15.MessageTells'. -/
def messageTellsCard : Claim7 := { stood := { row := messageTellsRow, standIns := [], harness := (true, "1c7cde90177500bdd7221eca069e154730df45ffc9eebfccc5c2bf28acf60314"), looks := true }, kinds := [], alts := [], laidByText := true, laidKinds := [.data, .data, .data, .data, .sentinel, .sentinel, .pinned], laidTests := true, laidLooks := .later }
def MessageTellsCardSaid : Prop := Claim7.holds Tryz.pinned (.plain (OpenSpec.ofChange messageTellsSpec)) messageTellsCard

/-- THE TIED CARD OF 'bywashlaw15.MessagePlays'. -/
def messagePlaysCard : Claim7 := { stood := { row := messagePlaysRow, standIns := [], harness := (true, "1c7cde90177500bdd7221eca069e154730df45ffc9eebfccc5c2bf28acf60314"), looks := true }, kinds := [], alts := [], laidByText := true, laidKinds := [.data, .data, .data, .data, .sentinel, .sentinel, .pinned], laidTests := true, laidLooks := .later }
def MessagePlaysCardSaid : Prop := Claim7.holds Tryz.pinned (.plain (OpenSpec.ofChange messagePlaysSpec)) messagePlaysCard

/-- THE SECOND FORM's CARD OF 'bywashlaw15.MessageTells'. -/
def messageTellsUptoCard : Claim7 := { stood := { row := messageTellsUptoRow, standIns := [], harness := (true, "1c7cde90177500bdd7221eca069e154730df45ffc9eebfccc5c2bf28acf60314"), looks := true }, kinds := [], alts := [], laidByText := true, laidKinds := [.data, .data, .data, .data, .sentinel, .sentinel, .pinned], laidTests := true, laidLooks := .later }
def MessageTellsUptoCardSaid : Prop := Claim7.holds Tryz.pinned (.plain (OpenSpec.upto messageTellsSpec)) messageTellsUptoCard

/-- THE SECOND FORM's CARD OF 'bywashlaw15.MessagePlays'. -/
def messagePlaysUptoCard : Claim7 := { stood := { row := messagePlaysUptoRow, standIns := [], harness := (true, "1c7cde90177500bdd7221eca069e154730df45ffc9eebfccc5c2bf28acf60314"), looks := true }, kinds := [], alts := [], laidByText := true, laidKinds := [.data, .data, .data, .data, .sentinel, .sentinel, .pinned], laidTests := true, laidLooks := .later }
def MessagePlaysUptoCardSaid : Prop := Claim7.holds Tryz.pinned (.plain (OpenSpec.upto messagePlaysSpec)) messagePlaysUptoCard
end Rows
end Go.Proofs.YtififgiicpdndaaGreatDoor
