/-
  DERIVED. GIVEN WITH THE SEED: THE CARDS: each row of YthibjhjeppfahaaDoorRows.lean that lists a variable, with what it lists TIED to the program's text (the seventh form; the later family's looks); each row that meets fmt, with fmt's text TOLD by the authors' own Lean function (tested against real Go, not proved from fmt's source: count such statements apart). THE CARD IS WHAT COUNTS. Prove the row's statement (the work); the ties are given (YthibjhjeppfahaaDoorTie.lean); close each card by the builder's one call (the guide's Derived/Test/ToyasCard.lean, 'card_holds'). Laid BY PROGRAM, IN A SANDBOX (cutbox-door.mjs). By AI agents, Wed Nov 11 2026. No macro, syntax, notation, axiom, sorry.
-/
import Derived.Test.YthibjhjeppfahaaDoorRows
import GoSem.ClaimSeven
namespace Go.Proofs.YthibjhjeppfahaaDoor
namespace Rows

/-- THE TIED CARD OF 'bywashlaw6.FieldNames'. -/
def fieldNamesCard : Claim7 := { stood := { row := fieldNamesRow, standIns := [], harness := (true, "3b27b46ade1cfc33510353da6eaa6b45bd12ab717f7c1f26175f97dbe9ed1ba3"), looks := true }, kinds := [], alts := [], laidByText := true, laidKinds := [.data, .data, .data, .data, .sentinel, .sentinel, .pinned], laidTests := true, laidLooks := .later }
def FieldNamesCardSaid : Prop := Claim7.holds Tryd.pinned (.plain (OpenSpec.ofChange fieldNamesSpec)) fieldNamesCard

/-- THE TIED CARD OF 'bywashlaw6.FieldLacks'. -/
def fieldLacksCard : Claim7 := { stood := { row := fieldLacksRow, standIns := [], harness := (true, "3b27b46ade1cfc33510353da6eaa6b45bd12ab717f7c1f26175f97dbe9ed1ba3"), looks := true }, kinds := [], alts := [], laidByText := true, laidKinds := [.data, .data, .data, .data, .sentinel, .sentinel, .pinned], laidTests := true, laidLooks := .later }
def FieldLacksCardSaid : Prop := Claim7.holds Tryd.pinned (.plain (OpenSpec.ofChange fieldLacksSpec)) fieldLacksCard

/-- THE TIED CARD OF 'bywashlaw6.FieldGets'. -/
def fieldGetsCard : Claim7 := { stood := { row := fieldGetsRow, standIns := [], harness := (true, "3b27b46ade1cfc33510353da6eaa6b45bd12ab717f7c1f26175f97dbe9ed1ba3"), looks := true }, kinds := [], alts := [], laidByText := true, laidKinds := [.data, .data, .data, .data, .sentinel, .sentinel, .pinned], laidTests := true, laidLooks := .later }
def FieldGetsCardSaid : Prop := Claim7.holds Tryd.pinned (.plain (OpenSpec.ofChange fieldGetsSpec)) fieldGetsCard

/-- THE TIED CARD OF 'bywashlaw6.FieldValues'. -/
def fieldValuesCard : Claim7 := { stood := { row := fieldValuesRow, standIns := [], harness := (true, "3b27b46ade1cfc33510353da6eaa6b45bd12ab717f7c1f26175f97dbe9ed1ba3"), looks := true }, kinds := [], alts := [], laidByText := true, laidKinds := [.data, .data, .data, .data, .sentinel, .sentinel, .pinned], laidTests := true, laidLooks := .later }
def FieldValuesCardSaid : Prop := Claim7.holds Tryd.pinned (.plain (OpenSpec.ofChange fieldValuesSpec)) fieldValuesCard

/-- THE TIED CARD OF 'bywashlaw6.FieldTells'. -/
def fieldTellsCard : Claim7 := { stood := { row := fieldTellsRow, standIns := [], harness := (true, "3b27b46ade1cfc33510353da6eaa6b45bd12ab717f7c1f26175f97dbe9ed1ba3"), looks := true }, kinds := [], alts := [], laidByText := true, laidKinds := [.data, .data, .data, .data, .sentinel, .sentinel, .pinned], laidTests := true, laidLooks := .later }
def FieldTellsCardSaid : Prop := Claim7.holds Tryd.pinned (.plain (OpenSpec.ofChange fieldTellsSpec)) fieldTellsCard

/-- THE TIED CARD OF 'bywashlaw6.FieldMore'. -/
def fieldMoreCard : Claim7 := { stood := { row := fieldMoreRow, standIns := [], harness := (true, "3b27b46ade1cfc33510353da6eaa6b45bd12ab717f7c1f26175f97dbe9ed1ba3"), looks := true }, kinds := [], alts := [], laidByText := true, laidKinds := [.data, .data, .data, .data, .sentinel, .sentinel, .pinned], laidTests := true, laidLooks := .later }
def FieldMoreCardSaid : Prop := Claim7.holds Tryd.pinned (.plain (OpenSpec.ofChange fieldMoreSpec)) fieldMoreCard

/-- THE TIED CARD OF 'bywashlaw6.FieldStatus'. -/
def fieldStatusCard : Claim7 := { stood := { row := fieldStatusRow, standIns := [], harness := (true, "3b27b46ade1cfc33510353da6eaa6b45bd12ab717f7c1f26175f97dbe9ed1ba3"), looks := true }, kinds := [], alts := [], laidByText := true, laidKinds := [.data, .data, .data, .data, .sentinel, .sentinel, .pinned], laidTests := true, laidLooks := .later }
def FieldStatusCardSaid : Prop := Claim7.holds Tryd.pinned (.plain (OpenSpec.ofChange fieldStatusSpec)) fieldStatusCard

/-- THE TIED CARD OF 'bywashlaw6.FieldForbids'. -/
def fieldForbidsCard : Claim7 := { stood := { row := fieldForbidsRow, standIns := [], harness := (true, "3b27b46ade1cfc33510353da6eaa6b45bd12ab717f7c1f26175f97dbe9ed1ba3"), looks := true }, kinds := [], alts := [], laidByText := true, laidKinds := [.data, .data, .data, .data, .sentinel, .sentinel, .pinned], laidTests := true, laidLooks := .later }
def FieldForbidsCardSaid : Prop := Claim7.holds Tryd.pinned (.plain (OpenSpec.ofChange fieldForbidsSpec)) fieldForbidsCard

/-- THE SECOND FORM's CARD OF 'bywashlaw6.FieldNames'. -/
def fieldNamesUptoCard : Claim7 := { stood := { row := fieldNamesUptoRow, standIns := [], harness := (true, "3b27b46ade1cfc33510353da6eaa6b45bd12ab717f7c1f26175f97dbe9ed1ba3"), looks := true }, kinds := [], alts := [], laidByText := true, laidKinds := [.data, .data, .data, .data, .sentinel, .sentinel, .pinned], laidTests := true, laidLooks := .later }
def FieldNamesUptoCardSaid : Prop := Claim7.holds Tryd.pinned (.plain (OpenSpec.upto fieldNamesSpec)) fieldNamesUptoCard

/-- THE SECOND FORM's CARD OF 'bywashlaw6.FieldLacks'. -/
def fieldLacksUptoCard : Claim7 := { stood := { row := fieldLacksUptoRow, standIns := [], harness := (true, "3b27b46ade1cfc33510353da6eaa6b45bd12ab717f7c1f26175f97dbe9ed1ba3"), looks := true }, kinds := [], alts := [], laidByText := true, laidKinds := [.data, .data, .data, .data, .sentinel, .sentinel, .pinned], laidTests := true, laidLooks := .later }
def FieldLacksUptoCardSaid : Prop := Claim7.holds Tryd.pinned (.plain (OpenSpec.upto fieldLacksSpec)) fieldLacksUptoCard

/-- THE SECOND FORM's CARD OF 'bywashlaw6.FieldGets'. -/
def fieldGetsUptoCard : Claim7 := { stood := { row := fieldGetsUptoRow, standIns := [], harness := (true, "3b27b46ade1cfc33510353da6eaa6b45bd12ab717f7c1f26175f97dbe9ed1ba3"), looks := true }, kinds := [], alts := [], laidByText := true, laidKinds := [.data, .data, .data, .data, .sentinel, .sentinel, .pinned], laidTests := true, laidLooks := .later }
def FieldGetsUptoCardSaid : Prop := Claim7.holds Tryd.pinned (.plain (OpenSpec.upto fieldGetsSpec)) fieldGetsUptoCard

/-- THE SECOND FORM's CARD OF 'bywashlaw6.FieldValues'. -/
def fieldValuesUptoCard : Claim7 := { stood := { row := fieldValuesUptoRow, standIns := [], harness := (true, "3b27b46ade1cfc33510353da6eaa6b45bd12ab717f7c1f26175f97dbe9ed1ba3"), looks := true }, kinds := [], alts := [], laidByText := true, laidKinds := [.data, .data, .data, .data, .sentinel, .sentinel, .pinned], laidTests := true, laidLooks := .later }
def FieldValuesUptoCardSaid : Prop := Claim7.holds Tryd.pinned (.plain (OpenSpec.upto fieldValuesSpec)) fieldValuesUptoCard

/-- THE SECOND FORM's CARD OF 'bywashlaw6.FieldTells'. -/
def fieldTellsUptoCard : Claim7 := { stood := { row := fieldTellsUptoRow, standIns := [], harness := (true, "3b27b46ade1cfc33510353da6eaa6b45bd12ab717f7c1f26175f97dbe9ed1ba3"), looks := true }, kinds := [], alts := [], laidByText := true, laidKinds := [.data, .data, .data, .data, .sentinel, .sentinel, .pinned], laidTests := true, laidLooks := .later }
def FieldTellsUptoCardSaid : Prop := Claim7.holds Tryd.pinned (.plain (OpenSpec.upto fieldTellsSpec)) fieldTellsUptoCard

/-- THE SECOND FORM's CARD OF 'bywashlaw6.FieldMore'. -/
def fieldMoreUptoCard : Claim7 := { stood := { row := fieldMoreUptoRow, standIns := [], harness := (true, "3b27b46ade1cfc33510353da6eaa6b45bd12ab717f7c1f26175f97dbe9ed1ba3"), looks := true }, kinds := [], alts := [], laidByText := true, laidKinds := [.data, .data, .data, .data, .sentinel, .sentinel, .pinned], laidTests := true, laidLooks := .later }
def FieldMoreUptoCardSaid : Prop := Claim7.holds Tryd.pinned (.plain (OpenSpec.upto fieldMoreSpec)) fieldMoreUptoCard

/-- THE SECOND FORM's CARD OF 'bywashlaw6.FieldStatus'. -/
def fieldStatusUptoCard : Claim7 := { stood := { row := fieldStatusUptoRow, standIns := [], harness := (true, "3b27b46ade1cfc33510353da6eaa6b45bd12ab717f7c1f26175f97dbe9ed1ba3"), looks := true }, kinds := [], alts := [], laidByText := true, laidKinds := [.data, .data, .data, .data, .sentinel, .sentinel, .pinned], laidTests := true, laidLooks := .later }
def FieldStatusUptoCardSaid : Prop := Claim7.holds Tryd.pinned (.plain (OpenSpec.upto fieldStatusSpec)) fieldStatusUptoCard

/-- THE SECOND FORM's CARD OF 'bywashlaw6.FieldForbids'. -/
def fieldForbidsUptoCard : Claim7 := { stood := { row := fieldForbidsUptoRow, standIns := [], harness := (true, "3b27b46ade1cfc33510353da6eaa6b45bd12ab717f7c1f26175f97dbe9ed1ba3"), looks := true }, kinds := [], alts := [], laidByText := true, laidKinds := [.data, .data, .data, .data, .sentinel, .sentinel, .pinned], laidTests := true, laidLooks := .later }
def FieldForbidsUptoCardSaid : Prop := Claim7.holds Tryd.pinned (.plain (OpenSpec.upto fieldForbidsSpec)) fieldForbidsUptoCard
end Rows
end Go.Proofs.YthibjhjeppfahaaDoor
