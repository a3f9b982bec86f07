/-
  No cell of these rows narrows 'for every input' (looked for: loops, veiled, ifaces, maps, wideKeys, modest, calm, conditions, laid).
  DERIVED. THE GIVEN ROWS OF THIS SEAT. 11 by the template 'for every input the law returns true; each argument reads behind the call as it read before'; 0 by the template 'total and deterministic' (their statements: YtohphkdemonlkaaTotals.lean).
  GIVEN WITH THE SEED: the statements are not yours to turn. If you find one false, say at which input.
  Laid BY PROGRAM, IN A SANDBOX (cutbox-rows.mjs): the forced cells as the released guide's own fill.sh prints them over the translation bda98763f3b63f61… (all of the seat's roots in one cut). By AI agents, Wed Nov 11 2026. No macro, syntax, notation, axiom, sorry.
-/
import Derived.Test.YtohphkdemonlkaaChecked
import GoSem.Claim
import GoSem.ClaimJoined
import GoSem.ClaimMapViews
import Derived.JoinedTies
import Derived.KernelRfl
namespace Go.Proofs.Ytohphkdemonlkaa
/- THE CELL 'sum', in the pinned program and in every row, IS THE sha256 OF THE DUMP (.gsa) THAT YtohphkdemonlkaaProg.lean LOADS. Nothing in Lean hashes anything: it is a label: what it is worth is what the hold of that sum in a sandbox is worth. -/
noncomputable def Try.pinned : Pinned := { name := "ytohphkdemonlkaa", sum := "bda98763f3b63f61cacbfdd5156fe12c57e513a0a5e6b2b2f5def8bec3fcf4b8", checked := Try.checked }
namespace Rows
def none {H : Type} : Left H := { results := [], args := [] }

/-- 'bywashlaw22.QueueCuts': WHATEVER THE INPUT: true; the input reads as it did. -/
def queueCutsSpec : ChangeSpec := { name := "queueCuts", fn := fun _ => fun
  | [d1, d2] => { results := [.lit (.bool true)], args := [d1, d2] }
  | _ => none }
def queueCutsRow : OpenClaim := { program := "ytohphkdemonlkaa", sum := "bda98763f3b63f61cacbfdd5156fe12c57e513a0a5e6b2b2f5def8bec3fcf4b8", func := "bywash/bywashlaw22.QueueCuts", spec := "queueCuts", inPlace := ["slices.overlaps[int]"], apart := false }
def QueueCutsSaid : Prop := queueCutsRow.holds Try.pinned (OpenSpec.ofChange queueCutsSpec)

/-- ITS FALSE NEIGHBOUR: 'it returns false'. Refute it at one input. -/
def queueCutsWrong : ChangeSpec := { name := "queueCuts", fn := fun _ => fun
  | [d1, d2] => { results := [.lit (.bool false)], args := [d1, d2] }
  | _ => none }
def QueueCutsWrongFalsely : Prop := queueCutsRow.holds Try.pinned (OpenSpec.ofChange queueCutsWrong)

/-- 'bywashlaw22.QueuePlays': WHATEVER THE INPUT: true; the input reads as it did. -/
def queuePlaysSpec : ChangeSpec := { name := "queuePlays", fn := fun _ => fun
  | [d1, d2] => { results := [.lit (.bool true)], args := [d1, d2] }
  | _ => none }
def queuePlaysRow : OpenClaim := { program := "ytohphkdemonlkaa", sum := "bda98763f3b63f61cacbfdd5156fe12c57e513a0a5e6b2b2f5def8bec3fcf4b8", func := "bywash/bywashlaw22.QueuePlays", spec := "queuePlays", inPlace := ["slices.overlaps[int]"], apart := false }
def QueuePlaysSaid : Prop := queuePlaysRow.holds Try.pinned (OpenSpec.ofChange queuePlaysSpec)

/-- ITS FALSE NEIGHBOUR: 'it returns false'. Refute it at one input. -/
def queuePlaysWrong : ChangeSpec := { name := "queuePlays", fn := fun _ => fun
  | [d1, d2] => { results := [.lit (.bool false)], args := [d1, d2] }
  | _ => none }
def QueuePlaysWrongFalsely : Prop := queuePlaysRow.holds Try.pinned (OpenSpec.ofChange queuePlaysWrong)

/-- 'bywashlaw22.QueueOrder': WHATEVER THE INPUT: true; the input reads as it did. -/
def queueOrderSpec : ChangeSpec := { name := "queueOrder", fn := fun _ => fun
  | [d1, d2] => { results := [.lit (.bool true)], args := [d1, d2] }
  | _ => none }
def queueOrderRow : OpenClaim := { program := "ytohphkdemonlkaa", sum := "bda98763f3b63f61cacbfdd5156fe12c57e513a0a5e6b2b2f5def8bec3fcf4b8", func := "bywash/bywashlaw22.QueueOrder", spec := "queueOrder", inPlace := ["slices.overlaps[int]"], apart := false }
def QueueOrderSaid : Prop := queueOrderRow.holds Try.pinned (OpenSpec.ofChange queueOrderSpec)

/-- ITS FALSE NEIGHBOUR: 'it returns false'. Refute it at one input. -/
def queueOrderWrong : ChangeSpec := { name := "queueOrder", fn := fun _ => fun
  | [d1, d2] => { results := [.lit (.bool false)], args := [d1, d2] }
  | _ => none }
def QueueOrderWrongFalsely : Prop := queueOrderRow.holds Try.pinned (OpenSpec.ofChange queueOrderWrong)

/-- 'bywashlaw22.QueueFull': WHATEVER THE INPUT: true; the input reads as it did. -/
def queueFullSpec : ChangeSpec := { name := "queueFull", fn := fun _ => fun
  | [d1, d2, d3] => { results := [.lit (.bool true)], args := [d1, d2, d3] }
  | _ => none }
def queueFullRow : OpenClaim := { program := "ytohphkdemonlkaa", sum := "bda98763f3b63f61cacbfdd5156fe12c57e513a0a5e6b2b2f5def8bec3fcf4b8", func := "bywash/bywashlaw22.QueueFull", spec := "queueFull", inPlace := ["slices.overlaps[int]"], apart := false }
def QueueFullSaid : Prop := queueFullRow.holds Try.pinned (OpenSpec.ofChange queueFullSpec)

/-- ITS FALSE NEIGHBOUR: 'it returns false'. Refute it at one input. -/
def queueFullWrong : ChangeSpec := { name := "queueFull", fn := fun _ => fun
  | [d1, d2, d3] => { results := [.lit (.bool false)], args := [d1, d2, d3] }
  | _ => none }
def QueueFullWrongFalsely : Prop := queueFullRow.holds Try.pinned (OpenSpec.ofChange queueFullWrong)

/-- 'bywashlaw4.TableRoom': WHATEVER THE INPUT: true; the input reads as it did. -/
def tableRoomSpec : ChangeSpec := { name := "tableRoom", fn := fun _ => fun
  | [d1, d2] => { results := [.lit (.bool true)], args := [d1, d2] }
  | _ => none }
def tableRoomRow : OpenClaim := { program := "ytohphkdemonlkaa", sum := "bda98763f3b63f61cacbfdd5156fe12c57e513a0a5e6b2b2f5def8bec3fcf4b8", func := "bywash/bywashlaw4.TableRoom", spec := "tableRoom", inPlace := ["slices.overlaps[bywash/api.Field]"], unfollowed := true, recurses := true, apart := false }
def TableRoomSaid : Prop := tableRoomRow.holds Try.pinned (OpenSpec.ofChange tableRoomSpec)

/-- ITS FALSE NEIGHBOUR: 'it returns false'. Refute it at one input. -/
def tableRoomWrong : ChangeSpec := { name := "tableRoom", fn := fun _ => fun
  | [d1, d2] => { results := [.lit (.bool false)], args := [d1, d2] }
  | _ => none }
def TableRoomWrongFalsely : Prop := tableRoomRow.holds Try.pinned (OpenSpec.ofChange tableRoomWrong)

/-- 'bywashlaw4.TableFixed': WHATEVER THE INPUT: true; the input reads as it did. -/
def tableFixedSpec : ChangeSpec := { name := "tableFixed", fn := fun _ => fun
  | [d1, d2, d3] => { results := [.lit (.bool true)], args := [d1, d2, d3] }
  | _ => none }
def tableFixedRow : OpenClaim := { program := "ytohphkdemonlkaa", sum := "bda98763f3b63f61cacbfdd5156fe12c57e513a0a5e6b2b2f5def8bec3fcf4b8", func := "bywash/bywashlaw4.TableFixed", spec := "tableFixed", inPlace := ["slices.overlaps[bywash/api.Field]"], unfollowed := true, recurses := true, apart := false }
def TableFixedSaid : Prop := tableFixedRow.holds Try.pinned (OpenSpec.ofChange tableFixedSpec)

/-- ITS FALSE NEIGHBOUR: 'it returns false'. Refute it at one input. -/
def tableFixedWrong : ChangeSpec := { name := "tableFixed", fn := fun _ => fun
  | [d1, d2, d3] => { results := [.lit (.bool false)], args := [d1, d2, d3] }
  | _ => none }
def TableFixedWrongFalsely : Prop := tableFixedRow.holds Try.pinned (OpenSpec.ofChange tableFixedWrong)

/-- 'bywashlaw4.TableFinds': WHATEVER THE INPUT: true; the input reads as it did. -/
def tableFindsSpec : ChangeSpec := { name := "tableFinds", fn := fun _ => fun
  | [d1, d2] => { results := [.lit (.bool true)], args := [d1, d2] }
  | _ => none }
def tableFindsRow : OpenClaim := { program := "ytohphkdemonlkaa", sum := "bda98763f3b63f61cacbfdd5156fe12c57e513a0a5e6b2b2f5def8bec3fcf4b8", func := "bywash/bywashlaw4.TableFinds", spec := "tableFinds", inPlace := ["slices.overlaps[bywash/api.Field]"], unfollowed := true, recurses := true, apart := false }
def TableFindsSaid : Prop := tableFindsRow.holds Try.pinned (OpenSpec.ofChange tableFindsSpec)

/-- ITS FALSE NEIGHBOUR: 'it returns false'. Refute it at one input. -/
def tableFindsWrong : ChangeSpec := { name := "tableFinds", fn := fun _ => fun
  | [d1, d2] => { results := [.lit (.bool false)], args := [d1, d2] }
  | _ => none }
def TableFindsWrongFalsely : Prop := tableFindsRow.holds Try.pinned (OpenSpec.ofChange tableFindsWrong)

/-- 'bywashlaw4.TableCosts': WHATEVER THE INPUT: true; the input reads as it did. -/
def tableCostsSpec : ChangeSpec := { name := "tableCosts", fn := fun _ => fun
  | [d] => { results := [.lit (.bool true)], args := [d] }
  | _ => none }
def tableCostsRow : OpenClaim := { program := "ytohphkdemonlkaa", sum := "bda98763f3b63f61cacbfdd5156fe12c57e513a0a5e6b2b2f5def8bec3fcf4b8", func := "bywash/bywashlaw4.TableCosts", spec := "tableCosts", inPlace := ["slices.overlaps[bywash/api.Field]"], unfollowed := true, recurses := true, apart := false }
def TableCostsSaid : Prop := tableCostsRow.holds Try.pinned (OpenSpec.ofChange tableCostsSpec)

/-- ITS FALSE NEIGHBOUR: 'it returns false'. Refute it at one input. -/
def tableCostsWrong : ChangeSpec := { name := "tableCosts", fn := fun _ => fun
  | [d] => { results := [.lit (.bool false)], args := [d] }
  | _ => none }
def TableCostsWrongFalsely : Prop := tableCostsRow.holds Try.pinned (OpenSpec.ofChange tableCostsWrong)

/-- 'bywashlaw4.TableGreat': WHATEVER THE INPUT: true; the input reads as it did. -/
def tableGreatSpec : ChangeSpec := { name := "tableGreat", fn := fun _ => fun
  | [d1, d2] => { results := [.lit (.bool true)], args := [d1, d2] }
  | _ => none }
def tableGreatRow : OpenClaim := { program := "ytohphkdemonlkaa", sum := "bda98763f3b63f61cacbfdd5156fe12c57e513a0a5e6b2b2f5def8bec3fcf4b8", func := "bywash/bywashlaw4.TableGreat", spec := "tableGreat", inPlace := ["slices.overlaps[bywash/api.Field]"], unfollowed := true, recurses := true, apart := false }
def TableGreatSaid : Prop := tableGreatRow.holds Try.pinned (OpenSpec.ofChange tableGreatSpec)

/-- ITS FALSE NEIGHBOUR: 'it returns false'. Refute it at one input. -/
def tableGreatWrong : ChangeSpec := { name := "tableGreat", fn := fun _ => fun
  | [d1, d2] => { results := [.lit (.bool false)], args := [d1, d2] }
  | _ => none }
def TableGreatWrongFalsely : Prop := tableGreatRow.holds Try.pinned (OpenSpec.ofChange tableGreatWrong)

/-- 'bywashlaw4.TablePlays': WHATEVER THE INPUT: true; the input reads as it did. -/
def tablePlaysSpec : ChangeSpec := { name := "tablePlays", fn := fun _ => fun
  | [d1, d2] => { results := [.lit (.bool true)], args := [d1, d2] }
  | _ => none }
def tablePlaysRow : OpenClaim := { program := "ytohphkdemonlkaa", sum := "bda98763f3b63f61cacbfdd5156fe12c57e513a0a5e6b2b2f5def8bec3fcf4b8", func := "bywash/bywashlaw4.TablePlays", spec := "tablePlays", inPlace := ["slices.overlaps[bywash/api.Field]"], unfollowed := true, recurses := true, apart := false }
def TablePlaysSaid : Prop := tablePlaysRow.holds Try.pinned (OpenSpec.ofChange tablePlaysSpec)

/-- ITS FALSE NEIGHBOUR: 'it returns false'. Refute it at one input. -/
def tablePlaysWrong : ChangeSpec := { name := "tablePlays", fn := fun _ => fun
  | [d1, d2] => { results := [.lit (.bool false)], args := [d1, d2] }
  | _ => none }
def TablePlaysWrongFalsely : Prop := tablePlaysRow.holds Try.pinned (OpenSpec.ofChange tablePlaysWrong)

/-- 'bywashlaw4.TableShrinks': WHATEVER THE INPUT: true; the input reads as it did. -/
def tableShrinksSpec : ChangeSpec := { name := "tableShrinks", fn := fun _ => fun
  | [d1, d2, d3] => { results := [.lit (.bool true)], args := [d1, d2, d3] }
  | _ => none }
def tableShrinksRow : OpenClaim := { program := "ytohphkdemonlkaa", sum := "bda98763f3b63f61cacbfdd5156fe12c57e513a0a5e6b2b2f5def8bec3fcf4b8", func := "bywash/bywashlaw4.TableShrinks", spec := "tableShrinks", inPlace := ["slices.overlaps[bywash/api.Field]"], unfollowed := true, recurses := true, apart := false }
def TableShrinksSaid : Prop := tableShrinksRow.holds Try.pinned (OpenSpec.ofChange tableShrinksSpec)

/-- ITS FALSE NEIGHBOUR: 'it returns false'. Refute it at one input. -/
def tableShrinksWrong : ChangeSpec := { name := "tableShrinks", fn := fun _ => fun
  | [d1, d2, d3] => { results := [.lit (.bool false)], args := [d1, d2, d3] }
  | _ => none }
def TableShrinksWrongFalsely : Prop := tableShrinksRow.holds Try.pinned (OpenSpec.ofChange tableShrinksWrong)

/- THE SECOND FORM. 'bulk': how many values and letters a reading holds, each counted each time it is reached (what is shared counts as often as it is met; a slice's spare places count too). A statement '..UptoSaid' is the law's where the arguments, and the package variables that the reading takes, are together of bulk at most 1048576: NARROWER than '..Said'. Prove '..Said' where nothing that the law and all that it calls make is longer than what came in: it says more and counts as full. Else prove '..UptoSaid'. A law counts once. -/
mutual
def uptoBulk {H : Type} : DataW H → Nat
  | .lit (.string bytes) => bytes.length + 1
  | .lit _ => 1
  | .nil => 1
  | .ptr d => uptoBulk d + 1
  | .slice elems spare => uptoBulkAll elems + uptoBulkAll spare + 1
  | .agg parts => uptoBulkAll parts + 1
  | .iface _ d => uptoBulk d + 1
  | .map entries => uptoBulkEntries entries + 1
  | .held _ => 1
def uptoBulkAll {H : Type} : List (DataW H) → Nat
  | [] => 0
  | d :: r => uptoBulk d + uptoBulkAll r
def uptoBulkEntries {H : Type} : List (Lit × DataW H) → Nat
  | [] => 0
  | x :: r => uptoBulkEntry x + uptoBulkEntries r
def uptoBulkEntry {H : Type} : Lit × DataW H → Nat
  | (.string bytes, d) => bytes.length + uptoBulk d + 1
  | (_, d) => uptoBulk d + 1
 end
def uptoSmall : (H : Type) → List (DataW H) → Bool := fun _ ds => decide (uptoBulkAll ds ≤ 1048576)
def OpenSpec.upto (s : _root_.Go.ChangeSpec) : _root_.Go.OpenSpec := { _root_.Go.OpenSpec.ofChange s with cond := some uptoSmall }

/-- 'bywashlaw22.QueueCuts', WHERE WHAT IT READS IS OF BULK AT MOST 1048576: true; the input reads as it did. -/
def queueCutsUptoRow : OpenClaim := { program := "ytohphkdemonlkaa", sum := "bda98763f3b63f61cacbfdd5156fe12c57e513a0a5e6b2b2f5def8bec3fcf4b8", func := "bywash/bywashlaw22.QueueCuts", spec := "queueCuts", inPlace := ["slices.overlaps[int]"], apart := false, narrowed := true }
def QueueCutsUptoSaid : Prop := queueCutsUptoRow.holds Try.pinned (OpenSpec.upto queueCutsSpec)

/-- 'bywashlaw22.QueuePlays', WHERE WHAT IT READS IS OF BULK AT MOST 1048576: true; the input reads as it did. -/
def queuePlaysUptoRow : OpenClaim := { program := "ytohphkdemonlkaa", sum := "bda98763f3b63f61cacbfdd5156fe12c57e513a0a5e6b2b2f5def8bec3fcf4b8", func := "bywash/bywashlaw22.QueuePlays", spec := "queuePlays", inPlace := ["slices.overlaps[int]"], apart := false, narrowed := true }
def QueuePlaysUptoSaid : Prop := queuePlaysUptoRow.holds Try.pinned (OpenSpec.upto queuePlaysSpec)

/-- 'bywashlaw22.QueueOrder', WHERE WHAT IT READS IS OF BULK AT MOST 1048576: true; the input reads as it did. -/
def queueOrderUptoRow : OpenClaim := { program := "ytohphkdemonlkaa", sum := "bda98763f3b63f61cacbfdd5156fe12c57e513a0a5e6b2b2f5def8bec3fcf4b8", func := "bywash/bywashlaw22.QueueOrder", spec := "queueOrder", inPlace := ["slices.overlaps[int]"], apart := false, narrowed := true }
def QueueOrderUptoSaid : Prop := queueOrderUptoRow.holds Try.pinned (OpenSpec.upto queueOrderSpec)

/-- 'bywashlaw22.QueueFull', WHERE WHAT IT READS IS OF BULK AT MOST 1048576: true; the input reads as it did. -/
def queueFullUptoRow : OpenClaim := { program := "ytohphkdemonlkaa", sum := "bda98763f3b63f61cacbfdd5156fe12c57e513a0a5e6b2b2f5def8bec3fcf4b8", func := "bywash/bywashlaw22.QueueFull", spec := "queueFull", inPlace := ["slices.overlaps[int]"], apart := false, narrowed := true }
def QueueFullUptoSaid : Prop := queueFullUptoRow.holds Try.pinned (OpenSpec.upto queueFullSpec)

/-- 'bywashlaw4.TableRoom', WHERE WHAT IT READS IS OF BULK AT MOST 1048576: true; the input reads as it did. -/
def tableRoomUptoRow : OpenClaim := { program := "ytohphkdemonlkaa", sum := "bda98763f3b63f61cacbfdd5156fe12c57e513a0a5e6b2b2f5def8bec3fcf4b8", func := "bywash/bywashlaw4.TableRoom", spec := "tableRoom", inPlace := ["slices.overlaps[bywash/api.Field]"], unfollowed := true, recurses := true, apart := false, narrowed := true }
def TableRoomUptoSaid : Prop := tableRoomUptoRow.holds Try.pinned (OpenSpec.upto tableRoomSpec)

/-- 'bywashlaw4.TableFixed', WHERE WHAT IT READS IS OF BULK AT MOST 1048576: true; the input reads as it did. -/
def tableFixedUptoRow : OpenClaim := { program := "ytohphkdemonlkaa", sum := "bda98763f3b63f61cacbfdd5156fe12c57e513a0a5e6b2b2f5def8bec3fcf4b8", func := "bywash/bywashlaw4.TableFixed", spec := "tableFixed", inPlace := ["slices.overlaps[bywash/api.Field]"], unfollowed := true, recurses := true, apart := false, narrowed := true }
def TableFixedUptoSaid : Prop := tableFixedUptoRow.holds Try.pinned (OpenSpec.upto tableFixedSpec)

/-- 'bywashlaw4.TableFinds', WHERE WHAT IT READS IS OF BULK AT MOST 1048576: true; the input reads as it did. -/
def tableFindsUptoRow : OpenClaim := { program := "ytohphkdemonlkaa", sum := "bda98763f3b63f61cacbfdd5156fe12c57e513a0a5e6b2b2f5def8bec3fcf4b8", func := "bywash/bywashlaw4.TableFinds", spec := "tableFinds", inPlace := ["slices.overlaps[bywash/api.Field]"], unfollowed := true, recurses := true, apart := false, narrowed := true }
def TableFindsUptoSaid : Prop := tableFindsUptoRow.holds Try.pinned (OpenSpec.upto tableFindsSpec)

/-- 'bywashlaw4.TableCosts', WHERE WHAT IT READS IS OF BULK AT MOST 1048576: true; the input reads as it did. -/
def tableCostsUptoRow : OpenClaim := { program := "ytohphkdemonlkaa", sum := "bda98763f3b63f61cacbfdd5156fe12c57e513a0a5e6b2b2f5def8bec3fcf4b8", func := "bywash/bywashlaw4.TableCosts", spec := "tableCosts", inPlace := ["slices.overlaps[bywash/api.Field]"], unfollowed := true, recurses := true, apart := false, narrowed := true }
def TableCostsUptoSaid : Prop := tableCostsUptoRow.holds Try.pinned (OpenSpec.upto tableCostsSpec)

/-- 'bywashlaw4.TableGreat', WHERE WHAT IT READS IS OF BULK AT MOST 1048576: true; the input reads as it did. -/
def tableGreatUptoRow : OpenClaim := { program := "ytohphkdemonlkaa", sum := "bda98763f3b63f61cacbfdd5156fe12c57e513a0a5e6b2b2f5def8bec3fcf4b8", func := "bywash/bywashlaw4.TableGreat", spec := "tableGreat", inPlace := ["slices.overlaps[bywash/api.Field]"], unfollowed := true, recurses := true, apart := false, narrowed := true }
def TableGreatUptoSaid : Prop := tableGreatUptoRow.holds Try.pinned (OpenSpec.upto tableGreatSpec)

/-- 'bywashlaw4.TablePlays', WHERE WHAT IT READS IS OF BULK AT MOST 1048576: true; the input reads as it did. -/
def tablePlaysUptoRow : OpenClaim := { program := "ytohphkdemonlkaa", sum := "bda98763f3b63f61cacbfdd5156fe12c57e513a0a5e6b2b2f5def8bec3fcf4b8", func := "bywash/bywashlaw4.TablePlays", spec := "tablePlays", inPlace := ["slices.overlaps[bywash/api.Field]"], unfollowed := true, recurses := true, apart := false, narrowed := true }
def TablePlaysUptoSaid : Prop := tablePlaysUptoRow.holds Try.pinned (OpenSpec.upto tablePlaysSpec)

/-- 'bywashlaw4.TableShrinks', WHERE WHAT IT READS IS OF BULK AT MOST 1048576: true; the input reads as it did. -/
def tableShrinksUptoRow : OpenClaim := { program := "ytohphkdemonlkaa", sum := "bda98763f3b63f61cacbfdd5156fe12c57e513a0a5e6b2b2f5def8bec3fcf4b8", func := "bywash/bywashlaw4.TableShrinks", spec := "tableShrinks", inPlace := ["slices.overlaps[bywash/api.Field]"], unfollowed := true, recurses := true, apart := false, narrowed := true }
def TableShrinksUptoSaid : Prop := tableShrinksUptoRow.holds Try.pinned (OpenSpec.upto tableShrinksSpec)

end Rows
end Go.Proofs.Ytohphkdemonlkaa
