/-
  No cell of these rows narrows 'for every input' (looked for: loops, veiled, ifaces, maps, wideKeys, modest, calm, conditions, laid).
  DERIVED. THE GIVEN ROWS OF THIS SEAT. 12 by the template 'for every input the law returns true; each argument reads behind the call as it read before'; 0 by the template 'total and deterministic' (their statements: YtmglfnphkngfdaaTotals.lean).
  GIVEN WITH THE SEED: the statements are not yours to turn. If you find one false, say at which input.
  Laid BY PROGRAM, IN A SANDBOX (cutbox-rows.mjs): the forced cells as the released guide's own fill.sh prints them over the translation f8eda1fd1413f1de… (all of the seat's roots in one cut). By AI agents, Wed Nov 11 2026. No macro, syntax, notation, axiom, sorry.
-/
import Derived.Test.YtmglfnphkngfdaaChecked
import GoSem.Claim
import GoSem.ClaimJoined
import GoSem.ClaimMapViews
import Derived.JoinedTies
import Derived.KernelRfl
namespace Go.Proofs.Ytmglfnphkngfdaa
/- THE CELL 'sum', in the pinned program and in every row, IS THE sha256 OF THE DUMP (.gsa) THAT YtmglfnphkngfdaaProg.lean LOADS. Nothing in Lean hashes anything: it is a label: what it is worth is what the hold of that sum in a sandbox is worth. -/
noncomputable def Try.pinned : Pinned := { name := "ytmglfnphkngfdaa", sum := "f8eda1fd1413f1de4e56bac18770cbc64deb22cde7198218a0e661dfe49834d3", checked := Try.checked }
namespace Rows
def none {H : Type} : Left H := { results := [], args := [] }

/-- 'bywashlaw2.VarintTells': WHATEVER THE INPUT: true; the input reads as it did. -/
def varintTellsSpec : ChangeSpec := { name := "varintTells", fn := fun _ => fun
  | [d1, d2, d3, d4] => { results := [.lit (.bool true)], args := [d1, d2, d3, d4] }
  | _ => none }
def varintTellsRow : OpenClaim := { program := "ytmglfnphkngfdaa", sum := "f8eda1fd1413f1de4e56bac18770cbc64deb22cde7198218a0e661dfe49834d3", func := "bywash/bywashlaw2.VarintTells", spec := "varintTells", apart := false }
def VarintTellsSaid : Prop := varintTellsRow.holds Try.pinned (OpenSpec.ofChange varintTellsSpec)

/-- ITS FALSE NEIGHBOUR: 'it returns false'. Refute it at one input. -/
def varintTellsWrong : ChangeSpec := { name := "varintTells", fn := fun _ => fun
  | [d1, d2, d3, d4] => { results := [.lit (.bool false)], args := [d1, d2, d3, d4] }
  | _ => none }
def VarintTellsWrongFalsely : Prop := varintTellsRow.holds Try.pinned (OpenSpec.ofChange varintTellsWrong)

/-- 'bywashlaw2.VarintCuts': WHATEVER THE INPUT: true; the input reads as it did. -/
def varintCutsSpec : ChangeSpec := { name := "varintCuts", fn := fun _ => fun
  | [d1, d2, d3] => { results := [.lit (.bool true)], args := [d1, d2, d3] }
  | _ => none }
def varintCutsRow : OpenClaim := { program := "ytmglfnphkngfdaa", sum := "f8eda1fd1413f1de4e56bac18770cbc64deb22cde7198218a0e661dfe49834d3", func := "bywash/bywashlaw2.VarintCuts", spec := "varintCuts", apart := false }
def VarintCutsSaid : Prop := varintCutsRow.holds Try.pinned (OpenSpec.ofChange varintCutsSpec)

/-- ITS FALSE NEIGHBOUR: 'it returns false'. Refute it at one input. -/
def varintCutsWrong : ChangeSpec := { name := "varintCuts", fn := fun _ => fun
  | [d1, d2, d3] => { results := [.lit (.bool false)], args := [d1, d2, d3] }
  | _ => none }
def VarintCutsWrongFalsely : Prop := varintCutsRow.holds Try.pinned (OpenSpec.ofChange varintCutsWrong)

/-- 'bywashlaw2.VarintShort': WHATEVER THE INPUT: true; the input reads as it did. -/
def varintShortSpec : ChangeSpec := { name := "varintShort", fn := fun _ => fun
  | [d1, d2, d3] => { results := [.lit (.bool true)], args := [d1, d2, d3] }
  | _ => none }
def varintShortRow : OpenClaim := { program := "ytmglfnphkngfdaa", sum := "f8eda1fd1413f1de4e56bac18770cbc64deb22cde7198218a0e661dfe49834d3", func := "bywash/bywashlaw2.VarintShort", spec := "varintShort", apart := false }
def VarintShortSaid : Prop := varintShortRow.holds Try.pinned (OpenSpec.ofChange varintShortSpec)

/-- ITS FALSE NEIGHBOUR: 'it returns false'. Refute it at one input. -/
def varintShortWrong : ChangeSpec := { name := "varintShort", fn := fun _ => fun
  | [d1, d2, d3] => { results := [.lit (.bool false)], args := [d1, d2, d3] }
  | _ => none }
def VarintShortWrongFalsely : Prop := varintShortRow.holds Try.pinned (OpenSpec.ofChange varintShortWrong)

/-- 'bywashlaw2.VarintFirst': WHATEVER THE INPUT: true; the input reads as it did. -/
def varintFirstSpec : ChangeSpec := { name := "varintFirst", fn := fun _ => fun
  | [d1, d2, d3] => { results := [.lit (.bool true)], args := [d1, d2, d3] }
  | _ => none }
def varintFirstRow : OpenClaim := { program := "ytmglfnphkngfdaa", sum := "f8eda1fd1413f1de4e56bac18770cbc64deb22cde7198218a0e661dfe49834d3", func := "bywash/bywashlaw2.VarintFirst", spec := "varintFirst", apart := false }
def VarintFirstSaid : Prop := varintFirstRow.holds Try.pinned (OpenSpec.ofChange varintFirstSpec)

/-- ITS FALSE NEIGHBOUR: 'it returns false'. Refute it at one input. -/
def varintFirstWrong : ChangeSpec := { name := "varintFirst", fn := fun _ => fun
  | [d1, d2, d3] => { results := [.lit (.bool false)], args := [d1, d2, d3] }
  | _ => none }
def VarintFirstWrongFalsely : Prop := varintFirstRow.holds Try.pinned (OpenSpec.ofChange varintFirstWrong)

/-- 'bywashlaw2.VarintLong': WHATEVER THE INPUT: true; the input reads as it did. -/
def varintLongSpec : ChangeSpec := { name := "varintLong", fn := fun _ => fun
  | [d1, d2, d3] => { results := [.lit (.bool true)], args := [d1, d2, d3] }
  | _ => none }
def varintLongRow : OpenClaim := { program := "ytmglfnphkngfdaa", sum := "f8eda1fd1413f1de4e56bac18770cbc64deb22cde7198218a0e661dfe49834d3", func := "bywash/bywashlaw2.VarintLong", spec := "varintLong", apart := false }
def VarintLongSaid : Prop := varintLongRow.holds Try.pinned (OpenSpec.ofChange varintLongSpec)

/-- ITS FALSE NEIGHBOUR: 'it returns false'. Refute it at one input. -/
def varintLongWrong : ChangeSpec := { name := "varintLong", fn := fun _ => fun
  | [d1, d2, d3] => { results := [.lit (.bool false)], args := [d1, d2, d3] }
  | _ => none }
def VarintLongWrongFalsely : Prop := varintLongRow.holds Try.pinned (OpenSpec.ofChange varintLongWrong)

/-- 'bywashlaw2.VarintBehind': WHATEVER THE INPUT: true; the input reads as it did. -/
def varintBehindSpec : ChangeSpec := { name := "varintBehind", fn := fun _ => fun
  | [d1, d2, d3] => { results := [.lit (.bool true)], args := [d1, d2, d3] }
  | _ => none }
def varintBehindRow : OpenClaim := { program := "ytmglfnphkngfdaa", sum := "f8eda1fd1413f1de4e56bac18770cbc64deb22cde7198218a0e661dfe49834d3", func := "bywash/bywashlaw2.VarintBehind", spec := "varintBehind", apart := false }
def VarintBehindSaid : Prop := varintBehindRow.holds Try.pinned (OpenSpec.ofChange varintBehindSpec)

/-- ITS FALSE NEIGHBOUR: 'it returns false'. Refute it at one input. -/
def varintBehindWrong : ChangeSpec := { name := "varintBehind", fn := fun _ => fun
  | [d1, d2, d3] => { results := [.lit (.bool false)], args := [d1, d2, d3] }
  | _ => none }
def VarintBehindWrongFalsely : Prop := varintBehindRow.holds Try.pinned (OpenSpec.ofChange varintBehindWrong)

/-- 'bywashlaw3.SqueezeTells': WHATEVER THE INPUT: true; the input reads as it did. -/
def squeezeTellsSpec : ChangeSpec := { name := "squeezeTells", fn := fun _ => fun
  | [d1, d2, d3] => { results := [.lit (.bool true)], args := [d1, d2, d3] }
  | _ => none }
def squeezeTellsRow : OpenClaim := { program := "ytmglfnphkngfdaa", sum := "f8eda1fd1413f1de4e56bac18770cbc64deb22cde7198218a0e661dfe49834d3", func := "bywash/bywashlaw3.SqueezeTells", spec := "squeezeTells", inPlace := ["internal/bytealg.IndexByteString"], apart := false }
def SqueezeTellsSaid : Prop := squeezeTellsRow.holds Try.pinned (OpenSpec.ofChange squeezeTellsSpec)

/-- ITS FALSE NEIGHBOUR: 'it returns false'. Refute it at one input. -/
def squeezeTellsWrong : ChangeSpec := { name := "squeezeTells", fn := fun _ => fun
  | [d1, d2, d3] => { results := [.lit (.bool false)], args := [d1, d2, d3] }
  | _ => none }
def SqueezeTellsWrongFalsely : Prop := squeezeTellsRow.holds Try.pinned (OpenSpec.ofChange squeezeTellsWrong)

/-- 'bywashlaw3.SqueezeOnce': WHATEVER THE INPUT: true; the input reads as it did. -/
def squeezeOnceSpec : ChangeSpec := { name := "squeezeOnce", fn := fun _ => fun
  | [d] => { results := [.lit (.bool true)], args := [d] }
  | _ => none }
def squeezeOnceRow : OpenClaim := { program := "ytmglfnphkngfdaa", sum := "f8eda1fd1413f1de4e56bac18770cbc64deb22cde7198218a0e661dfe49834d3", func := "bywash/bywashlaw3.SqueezeOnce", spec := "squeezeOnce", inPlace := ["internal/bytealg.IndexByteString"], apart := false }
def SqueezeOnceSaid : Prop := squeezeOnceRow.holds Try.pinned (OpenSpec.ofChange squeezeOnceSpec)

/-- ITS FALSE NEIGHBOUR: 'it returns false'. Refute it at one input. -/
def squeezeOnceWrong : ChangeSpec := { name := "squeezeOnce", fn := fun _ => fun
  | [d] => { results := [.lit (.bool false)], args := [d] }
  | _ => none }
def SqueezeOnceWrongFalsely : Prop := squeezeOnceRow.holds Try.pinned (OpenSpec.ofChange squeezeOnceWrong)

/-- 'bywashlaw3.SqueezeJoins': WHATEVER THE INPUT: true; the input reads as it did. -/
def squeezeJoinsSpec : ChangeSpec := { name := "squeezeJoins", fn := fun _ => fun
  | [d1, d2] => { results := [.lit (.bool true)], args := [d1, d2] }
  | _ => none }
def squeezeJoinsRow : OpenClaim := { program := "ytmglfnphkngfdaa", sum := "f8eda1fd1413f1de4e56bac18770cbc64deb22cde7198218a0e661dfe49834d3", func := "bywash/bywashlaw3.SqueezeJoins", spec := "squeezeJoins", inPlace := ["internal/bytealg.IndexByteString"], apart := false }
def SqueezeJoinsSaid : Prop := squeezeJoinsRow.holds Try.pinned (OpenSpec.ofChange squeezeJoinsSpec)

/-- ITS FALSE NEIGHBOUR: 'it returns false'. Refute it at one input. -/
def squeezeJoinsWrong : ChangeSpec := { name := "squeezeJoins", fn := fun _ => fun
  | [d1, d2] => { results := [.lit (.bool false)], args := [d1, d2] }
  | _ => none }
def SqueezeJoinsWrongFalsely : Prop := squeezeJoinsRow.holds Try.pinned (OpenSpec.ofChange squeezeJoinsWrong)

/-- 'bywashlaw3.SqueezeBytes': WHATEVER THE INPUT: true; the input reads as it did. -/
def squeezeBytesSpec : ChangeSpec := { name := "squeezeBytes", fn := fun _ => fun
  | [d1, d2] => { results := [.lit (.bool true)], args := [d1, d2] }
  | _ => none }
def squeezeBytesRow : OpenClaim := { program := "ytmglfnphkngfdaa", sum := "f8eda1fd1413f1de4e56bac18770cbc64deb22cde7198218a0e661dfe49834d3", func := "bywash/bywashlaw3.SqueezeBytes", spec := "squeezeBytes", inPlace := ["internal/bytealg.IndexByteString"], apart := false }
def SqueezeBytesSaid : Prop := squeezeBytesRow.holds Try.pinned (OpenSpec.ofChange squeezeBytesSpec)

/-- ITS FALSE NEIGHBOUR: 'it returns false'. Refute it at one input. -/
def squeezeBytesWrong : ChangeSpec := { name := "squeezeBytes", fn := fun _ => fun
  | [d1, d2] => { results := [.lit (.bool false)], args := [d1, d2] }
  | _ => none }
def SqueezeBytesWrongFalsely : Prop := squeezeBytesRow.holds Try.pinned (OpenSpec.ofChange squeezeBytesWrong)

/-- 'bywashlaw3.SqueezePads': WHATEVER THE INPUT: true; the input reads as it did. -/
def squeezePadsSpec : ChangeSpec := { name := "squeezePads", fn := fun _ => fun
  | [d1, d2] => { results := [.lit (.bool true)], args := [d1, d2] }
  | _ => none }
def squeezePadsRow : OpenClaim := { program := "ytmglfnphkngfdaa", sum := "f8eda1fd1413f1de4e56bac18770cbc64deb22cde7198218a0e661dfe49834d3", func := "bywash/bywashlaw3.SqueezePads", spec := "squeezePads", inPlace := ["internal/bytealg.IndexByteString"], apart := false }
def SqueezePadsSaid : Prop := squeezePadsRow.holds Try.pinned (OpenSpec.ofChange squeezePadsSpec)

/-- ITS FALSE NEIGHBOUR: 'it returns false'. Refute it at one input. -/
def squeezePadsWrong : ChangeSpec := { name := "squeezePads", fn := fun _ => fun
  | [d1, d2] => { results := [.lit (.bool false)], args := [d1, d2] }
  | _ => none }
def SqueezePadsWrongFalsely : Prop := squeezePadsRow.holds Try.pinned (OpenSpec.ofChange squeezePadsWrong)

/-- 'bywashlaw3.SqueezeShort': WHATEVER THE INPUT: true; the input reads as it did. -/
def squeezeShortSpec : ChangeSpec := { name := "squeezeShort", fn := fun _ => fun
  | [d] => { results := [.lit (.bool true)], args := [d] }
  | _ => none }
def squeezeShortRow : OpenClaim := { program := "ytmglfnphkngfdaa", sum := "f8eda1fd1413f1de4e56bac18770cbc64deb22cde7198218a0e661dfe49834d3", func := "bywash/bywashlaw3.SqueezeShort", spec := "squeezeShort", inPlace := ["internal/bytealg.IndexByteString"], apart := false }
def SqueezeShortSaid : Prop := squeezeShortRow.holds Try.pinned (OpenSpec.ofChange squeezeShortSpec)

/-- ITS FALSE NEIGHBOUR: 'it returns false'. Refute it at one input. -/
def squeezeShortWrong : ChangeSpec := { name := "squeezeShort", fn := fun _ => fun
  | [d] => { results := [.lit (.bool false)], args := [d] }
  | _ => none }
def SqueezeShortWrongFalsely : Prop := squeezeShortRow.holds Try.pinned (OpenSpec.ofChange squeezeShortWrong)

/- THE SECOND FORM. 'bulk': how many values and letters a reading holds, each counted each time it is reached (what is shared counts as often as it is met; a slice's spare places count too). A statement '..UptoSaid' is the law's where the arguments, and the package variables that the reading takes, are together of bulk at most 1048576: NARROWER than '..Said'. Prove '..Said' where nothing that the law and all that it calls make is longer than what came in: it says more and counts as full. Else prove '..UptoSaid'. A law counts once. -/
mutual
def uptoBulk {H : Type} : DataW H → Nat
  | .lit (.string bytes) => bytes.length + 1
  | .lit _ => 1
  | .nil => 1
  | .ptr d => uptoBulk d + 1
  | .slice elems spare => uptoBulkAll elems + uptoBulkAll spare + 1
  | .agg parts => uptoBulkAll parts + 1
  | .iface _ d => uptoBulk d + 1
  | .map entries => uptoBulkEntries entries + 1
  | .held _ => 1
def uptoBulkAll {H : Type} : List (DataW H) → Nat
  | [] => 0
  | d :: r => uptoBulk d + uptoBulkAll r
def uptoBulkEntries {H : Type} : List (Lit × DataW H) → Nat
  | [] => 0
  | x :: r => uptoBulkEntry x + uptoBulkEntries r
def uptoBulkEntry {H : Type} : Lit × DataW H → Nat
  | (.string bytes, d) => bytes.length + uptoBulk d + 1
  | (_, d) => uptoBulk d + 1
 end
def uptoSmall : (H : Type) → List (DataW H) → Bool := fun _ ds => decide (uptoBulkAll ds ≤ 1048576)
def OpenSpec.upto (s : _root_.Go.ChangeSpec) : _root_.Go.OpenSpec := { _root_.Go.OpenSpec.ofChange s with cond := some uptoSmall }

/-- 'bywashlaw2.VarintTells', WHERE WHAT IT READS IS OF BULK AT MOST 1048576: true; the input reads as it did. -/
def varintTellsUptoRow : OpenClaim := { program := "ytmglfnphkngfdaa", sum := "f8eda1fd1413f1de4e56bac18770cbc64deb22cde7198218a0e661dfe49834d3", func := "bywash/bywashlaw2.VarintTells", spec := "varintTells", apart := false, narrowed := true }
def VarintTellsUptoSaid : Prop := varintTellsUptoRow.holds Try.pinned (OpenSpec.upto varintTellsSpec)

/-- 'bywashlaw2.VarintCuts', WHERE WHAT IT READS IS OF BULK AT MOST 1048576: true; the input reads as it did. -/
def varintCutsUptoRow : OpenClaim := { program := "ytmglfnphkngfdaa", sum := "f8eda1fd1413f1de4e56bac18770cbc64deb22cde7198218a0e661dfe49834d3", func := "bywash/bywashlaw2.VarintCuts", spec := "varintCuts", apart := false, narrowed := true }
def VarintCutsUptoSaid : Prop := varintCutsUptoRow.holds Try.pinned (OpenSpec.upto varintCutsSpec)

/-- 'bywashlaw2.VarintShort', WHERE WHAT IT READS IS OF BULK AT MOST 1048576: true; the input reads as it did. -/
def varintShortUptoRow : OpenClaim := { program := "ytmglfnphkngfdaa", sum := "f8eda1fd1413f1de4e56bac18770cbc64deb22cde7198218a0e661dfe49834d3", func := "bywash/bywashlaw2.VarintShort", spec := "varintShort", apart := false, narrowed := true }
def VarintShortUptoSaid : Prop := varintShortUptoRow.holds Try.pinned (OpenSpec.upto varintShortSpec)

/-- 'bywashlaw2.VarintFirst', WHERE WHAT IT READS IS OF BULK AT MOST 1048576: true; the input reads as it did. -/
def varintFirstUptoRow : OpenClaim := { program := "ytmglfnphkngfdaa", sum := "f8eda1fd1413f1de4e56bac18770cbc64deb22cde7198218a0e661dfe49834d3", func := "bywash/bywashlaw2.VarintFirst", spec := "varintFirst", apart := false, narrowed := true }
def VarintFirstUptoSaid : Prop := varintFirstUptoRow.holds Try.pinned (OpenSpec.upto varintFirstSpec)

/-- 'bywashlaw2.VarintLong', WHERE WHAT IT READS IS OF BULK AT MOST 1048576: true; the input reads as it did. -/
def varintLongUptoRow : OpenClaim := { program := "ytmglfnphkngfdaa", sum := "f8eda1fd1413f1de4e56bac18770cbc64deb22cde7198218a0e661dfe49834d3", func := "bywash/bywashlaw2.VarintLong", spec := "varintLong", apart := false, narrowed := true }
def VarintLongUptoSaid : Prop := varintLongUptoRow.holds Try.pinned (OpenSpec.upto varintLongSpec)

/-- 'bywashlaw2.VarintBehind', WHERE WHAT IT READS IS OF BULK AT MOST 1048576: true; the input reads as it did. -/
def varintBehindUptoRow : OpenClaim := { program := "ytmglfnphkngfdaa", sum := "f8eda1fd1413f1de4e56bac18770cbc64deb22cde7198218a0e661dfe49834d3", func := "bywash/bywashlaw2.VarintBehind", spec := "varintBehind", apart := false, narrowed := true }
def VarintBehindUptoSaid : Prop := varintBehindUptoRow.holds Try.pinned (OpenSpec.upto varintBehindSpec)

/-- 'bywashlaw3.SqueezeTells', WHERE WHAT IT READS IS OF BULK AT MOST 1048576: true; the input reads as it did. -/
def squeezeTellsUptoRow : OpenClaim := { program := "ytmglfnphkngfdaa", sum := "f8eda1fd1413f1de4e56bac18770cbc64deb22cde7198218a0e661dfe49834d3", func := "bywash/bywashlaw3.SqueezeTells", spec := "squeezeTells", inPlace := ["internal/bytealg.IndexByteString"], apart := false, narrowed := true }
def SqueezeTellsUptoSaid : Prop := squeezeTellsUptoRow.holds Try.pinned (OpenSpec.upto squeezeTellsSpec)

/-- 'bywashlaw3.SqueezeOnce', WHERE WHAT IT READS IS OF BULK AT MOST 1048576: true; the input reads as it did. -/
def squeezeOnceUptoRow : OpenClaim := { program := "ytmglfnphkngfdaa", sum := "f8eda1fd1413f1de4e56bac18770cbc64deb22cde7198218a0e661dfe49834d3", func := "bywash/bywashlaw3.SqueezeOnce", spec := "squeezeOnce", inPlace := ["internal/bytealg.IndexByteString"], apart := false, narrowed := true }
def SqueezeOnceUptoSaid : Prop := squeezeOnceUptoRow.holds Try.pinned (OpenSpec.upto squeezeOnceSpec)

/-- 'bywashlaw3.SqueezeJoins', WHERE WHAT IT READS IS OF BULK AT MOST 1048576: true; the input reads as it did. -/
def squeezeJoinsUptoRow : OpenClaim := { program := "ytmglfnphkngfdaa", sum := "f8eda1fd1413f1de4e56bac18770cbc64deb22cde7198218a0e661dfe49834d3", func := "bywash/bywashlaw3.SqueezeJoins", spec := "squeezeJoins", inPlace := ["internal/bytealg.IndexByteString"], apart := false, narrowed := true }
def SqueezeJoinsUptoSaid : Prop := squeezeJoinsUptoRow.holds Try.pinned (OpenSpec.upto squeezeJoinsSpec)

/-- 'bywashlaw3.SqueezeBytes', WHERE WHAT IT READS IS OF BULK AT MOST 1048576: true; the input reads as it did. -/
def squeezeBytesUptoRow : OpenClaim := { program := "ytmglfnphkngfdaa", sum := "f8eda1fd1413f1de4e56bac18770cbc64deb22cde7198218a0e661dfe49834d3", func := "bywash/bywashlaw3.SqueezeBytes", spec := "squeezeBytes", inPlace := ["internal/bytealg.IndexByteString"], apart := false, narrowed := true }
def SqueezeBytesUptoSaid : Prop := squeezeBytesUptoRow.holds Try.pinned (OpenSpec.upto squeezeBytesSpec)

/-- 'bywashlaw3.SqueezePads', WHERE WHAT IT READS IS OF BULK AT MOST 1048576: true; the input reads as it did. -/
def squeezePadsUptoRow : OpenClaim := { program := "ytmglfnphkngfdaa", sum := "f8eda1fd1413f1de4e56bac18770cbc64deb22cde7198218a0e661dfe49834d3", func := "bywash/bywashlaw3.SqueezePads", spec := "squeezePads", inPlace := ["internal/bytealg.IndexByteString"], apart := false, narrowed := true }
def SqueezePadsUptoSaid : Prop := squeezePadsUptoRow.holds Try.pinned (OpenSpec.upto squeezePadsSpec)

/-- 'bywashlaw3.SqueezeShort', WHERE WHAT IT READS IS OF BULK AT MOST 1048576: true; the input reads as it did. -/
def squeezeShortUptoRow : OpenClaim := { program := "ytmglfnphkngfdaa", sum := "f8eda1fd1413f1de4e56bac18770cbc64deb22cde7198218a0e661dfe49834d3", func := "bywash/bywashlaw3.SqueezeShort", spec := "squeezeShort", inPlace := ["internal/bytealg.IndexByteString"], apart := false, narrowed := true }
def SqueezeShortUptoSaid : Prop := squeezeShortUptoRow.holds Try.pinned (OpenSpec.upto squeezeShortSpec)

end Rows
end Go.Proofs.Ytmglfnphkngfdaa
