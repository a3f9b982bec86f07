/-
  DERIVED. GIVEN WITH THE SEED: THE CARDS: each row of YtififgiicpdndaaDoorRows.lean that lists a variable, with what it lists TIED to the program's text (the seventh form; the later family's looks); each row that meets fmt, with fmt's text TOLD by the authors' own Lean function (tested against real Go, not proved from fmt's source: count such statements apart). THE CARD IS WHAT COUNTS. Prove the row's statement (the work); the ties are given (YtififgiicpdndaaDoorTie.lean); close each card by the builder's one call (the guide's Derived/Test/ToyasCard.lean, 'card_holds'). Laid BY PROGRAM, IN A SANDBOX (cutbox-door.mjs). By AI agents, Wed Nov 11 2026. No macro, syntax, notation, axiom, sorry.
-/
import Derived.Test.YtififgiicpdndaaDoorRows
import GoSem.ClaimSeven
namespace Go.Proofs.YtififgiicpdndaaDoor
namespace Rows

/-- THE TIED CARD OF 'bywashlaw15.MessageHead'. -/
def messageHeadCard : Claim7 := { stood := { row := messageHeadRow, standIns := [], harness := (true, "acf1bace3109a4d70bdbe65229dcd2fe3c7b4ceef13c1ca917f158fdbde4ca8c"), looks := true }, kinds := [], alts := [], laidByText := true, laidKinds := [.data, .data, .data, .data, .sentinel, .sentinel, .pinned], laidTests := true, laidLooks := .later }
def MessageHeadCardSaid : Prop := Claim7.holds Tryd.pinned (.plain (OpenSpec.ofChange messageHeadSpec)) messageHeadCard

/-- THE TIED CARD OF 'bywashlaw15.MessageBodies'. -/
def messageBodiesCard : Claim7 := { stood := { row := messageBodiesRow, standIns := [], harness := (true, "acf1bace3109a4d70bdbe65229dcd2fe3c7b4ceef13c1ca917f158fdbde4ca8c"), looks := true }, kinds := [], alts := [], laidByText := true, laidKinds := [.data, .data, .data, .data, .sentinel, .sentinel, .pinned], laidTests := true, laidLooks := .later }
def MessageBodiesCardSaid : Prop := Claim7.holds Tryd.pinned (.plain (OpenSpec.ofChange messageBodiesSpec)) messageBodiesCard

/-- THE TIED CARD OF 'bywashlaw15.MessageList'. -/
def messageListCard : Claim7 := { stood := { row := messageListRow, standIns := [], harness := (true, "acf1bace3109a4d70bdbe65229dcd2fe3c7b4ceef13c1ca917f158fdbde4ca8c"), looks := true }, kinds := [], alts := [], laidByText := true, laidKinds := [.data, .data, .data, .data, .sentinel, .sentinel, .pinned], laidTests := true, laidLooks := .later }
def MessageListCardSaid : Prop := Claim7.holds Tryd.pinned (.plain (OpenSpec.ofChange messageListSpec)) messageListCard

/-- THE TIED CARD OF 'bywashlaw15.MessageLengths'. -/
def messageLengthsCard : Claim7 := { stood := { row := messageLengthsRow, standIns := [], harness := (true, "acf1bace3109a4d70bdbe65229dcd2fe3c7b4ceef13c1ca917f158fdbde4ca8c"), looks := true }, kinds := [], alts := [], laidByText := true, laidKinds := [.data, .data, .data, .data, .sentinel, .sentinel, .pinned], laidTests := true, laidLooks := .later }
def MessageLengthsCardSaid : Prop := Claim7.holds Tryd.pinned (.plain (OpenSpec.ofChange messageLengthsSpec)) messageLengthsCard

/-- THE TIED CARD OF 'bywashlaw15.MessageEarly'. -/
def messageEarlyCard : Claim7 := { stood := { row := messageEarlyRow, standIns := [], harness := (true, "acf1bace3109a4d70bdbe65229dcd2fe3c7b4ceef13c1ca917f158fdbde4ca8c"), looks := true }, kinds := [], alts := [], laidByText := true, laidKinds := [.data, .data, .data, .data, .sentinel, .sentinel, .pinned], laidTests := true, laidLooks := .later }
def MessageEarlyCardSaid : Prop := Claim7.holds Tryd.pinned (.plain (OpenSpec.ofChange messageEarlySpec)) messageEarlyCard

/-- THE TIED CARD OF 'bywashlaw15.MessageBroken'. -/
def messageBrokenCard : Claim7 := { stood := { row := messageBrokenRow, standIns := [], harness := (true, "acf1bace3109a4d70bdbe65229dcd2fe3c7b4ceef13c1ca917f158fdbde4ca8c"), looks := true }, kinds := [], alts := [], laidByText := true, laidKinds := [.data, .data, .data, .data, .sentinel, .sentinel, .pinned], laidTests := true, laidLooks := .later }
def MessageBrokenCardSaid : Prop := Claim7.holds Tryd.pinned (.plain (OpenSpec.ofChange messageBrokenSpec)) messageBrokenCard

/-- THE TIED CARD OF 'bywashlaw15.MessageTrailers'. -/
def messageTrailersCard : Claim7 := { stood := { row := messageTrailersRow, standIns := [], harness := (true, "acf1bace3109a4d70bdbe65229dcd2fe3c7b4ceef13c1ca917f158fdbde4ca8c"), looks := true }, kinds := [], alts := [], laidByText := true, laidKinds := [.data, .data, .data, .data, .sentinel, .sentinel, .pinned], laidTests := true, laidLooks := .later }
def MessageTrailersCardSaid : Prop := Claim7.holds Tryd.pinned (.plain (OpenSpec.ofChange messageTrailersSpec)) messageTrailersCard

/-- THE SECOND FORM's CARD OF 'bywashlaw15.MessageHead'. -/
def messageHeadUptoCard : Claim7 := { stood := { row := messageHeadUptoRow, standIns := [], harness := (true, "acf1bace3109a4d70bdbe65229dcd2fe3c7b4ceef13c1ca917f158fdbde4ca8c"), looks := true }, kinds := [], alts := [], laidByText := true, laidKinds := [.data, .data, .data, .data, .sentinel, .sentinel, .pinned], laidTests := true, laidLooks := .later }
def MessageHeadUptoCardSaid : Prop := Claim7.holds Tryd.pinned (.plain (OpenSpec.upto messageHeadSpec)) messageHeadUptoCard

/-- THE SECOND FORM's CARD OF 'bywashlaw15.MessageBodies'. -/
def messageBodiesUptoCard : Claim7 := { stood := { row := messageBodiesUptoRow, standIns := [], harness := (true, "acf1bace3109a4d70bdbe65229dcd2fe3c7b4ceef13c1ca917f158fdbde4ca8c"), looks := true }, kinds := [], alts := [], laidByText := true, laidKinds := [.data, .data, .data, .data, .sentinel, .sentinel, .pinned], laidTests := true, laidLooks := .later }
def MessageBodiesUptoCardSaid : Prop := Claim7.holds Tryd.pinned (.plain (OpenSpec.upto messageBodiesSpec)) messageBodiesUptoCard

/-- THE SECOND FORM's CARD OF 'bywashlaw15.MessageList'. -/
def messageListUptoCard : Claim7 := { stood := { row := messageListUptoRow, standIns := [], harness := (true, "acf1bace3109a4d70bdbe65229dcd2fe3c7b4ceef13c1ca917f158fdbde4ca8c"), looks := true }, kinds := [], alts := [], laidByText := true, laidKinds := [.data, .data, .data, .data, .sentinel, .sentinel, .pinned], laidTests := true, laidLooks := .later }
def MessageListUptoCardSaid : Prop := Claim7.holds Tryd.pinned (.plain (OpenSpec.upto messageListSpec)) messageListUptoCard

/-- THE SECOND FORM's CARD OF 'bywashlaw15.MessageLengths'. -/
def messageLengthsUptoCard : Claim7 := { stood := { row := messageLengthsUptoRow, standIns := [], harness := (true, "acf1bace3109a4d70bdbe65229dcd2fe3c7b4ceef13c1ca917f158fdbde4ca8c"), looks := true }, kinds := [], alts := [], laidByText := true, laidKinds := [.data, .data, .data, .data, .sentinel, .sentinel, .pinned], laidTests := true, laidLooks := .later }
def MessageLengthsUptoCardSaid : Prop := Claim7.holds Tryd.pinned (.plain (OpenSpec.upto messageLengthsSpec)) messageLengthsUptoCard

/-- THE SECOND FORM's CARD OF 'bywashlaw15.MessageEarly'. -/
def messageEarlyUptoCard : Claim7 := { stood := { row := messageEarlyUptoRow, standIns := [], harness := (true, "acf1bace3109a4d70bdbe65229dcd2fe3c7b4ceef13c1ca917f158fdbde4ca8c"), looks := true }, kinds := [], alts := [], laidByText := true, laidKinds := [.data, .data, .data, .data, .sentinel, .sentinel, .pinned], laidTests := true, laidLooks := .later }
def MessageEarlyUptoCardSaid : Prop := Claim7.holds Tryd.pinned (.plain (OpenSpec.upto messageEarlySpec)) messageEarlyUptoCard

/-- THE SECOND FORM's CARD OF 'bywashlaw15.MessageBroken'. -/
def messageBrokenUptoCard : Claim7 := { stood := { row := messageBrokenUptoRow, standIns := [], harness := (true, "acf1bace3109a4d70bdbe65229dcd2fe3c7b4ceef13c1ca917f158fdbde4ca8c"), looks := true }, kinds := [], alts := [], laidByText := true, laidKinds := [.data, .data, .data, .data, .sentinel, .sentinel, .pinned], laidTests := true, laidLooks := .later }
def MessageBrokenUptoCardSaid : Prop := Claim7.holds Tryd.pinned (.plain (OpenSpec.upto messageBrokenSpec)) messageBrokenUptoCard

/-- THE SECOND FORM's CARD OF 'bywashlaw15.MessageTrailers'. -/
def messageTrailersUptoCard : Claim7 := { stood := { row := messageTrailersUptoRow, standIns := [], harness := (true, "acf1bace3109a4d70bdbe65229dcd2fe3c7b4ceef13c1ca917f158fdbde4ca8c"), looks := true }, kinds := [], alts := [], laidByText := true, laidKinds := [.data, .data, .data, .data, .sentinel, .sentinel, .pinned], laidTests := true, laidLooks := .later }
def MessageTrailersUptoCardSaid : Prop := Claim7.holds Tryd.pinned (.plain (OpenSpec.upto messageTrailersSpec)) messageTrailersUptoCard
end Rows
end Go.Proofs.YtififgiicpdndaaDoor
