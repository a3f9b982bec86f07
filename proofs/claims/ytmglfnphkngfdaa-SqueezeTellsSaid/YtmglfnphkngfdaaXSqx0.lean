-- Printed by wip/tools/xprint.py of this claim's session: the kit's print over contracts of its own.
import Derived.Test.YtmglfnphkngfdaaProg
import Derived.Below
import Derived.Deep.Draws
import Derived.Deep.AppendLies
import Derived.Maps.AppendAt
import Derived.OwnWalk
import Derived.Laws.BytesArg
import Derived.Laws.MakeOwn
import Derived.Laws.OwnMore
import Derived.Deep.OwnRows
import Derived.Tactics
import Derived.Lib.ConvBytes
import Derived.Laws.Slices
import Derived.WalkKit
import Derived.KernelRfl
import Derived.RowKit3
import Derived.Deep.LoopGhost
import Derived.Deep.QuietTactic
import Derived.BigQuiet
import Derived.WideLaws
import Derived.Deep.DeepCutAuto
import Derived.Deep.CutBlock
import Derived.Deep.RegionHeld3
import Derived.Laws.Rows
import Derived.Lib.AppendStr
import Derived.ArgAppend
import Derived.Laws.IdiomCopy
import Derived.OrdersHeld
import Derived.Laws.BitsLemmas
import Derived.RowKit
import Derived.Lib.Bytealg
import Derived.Lib.Walk
import Derived.Test.YtmglfnphkngfdaaWWords
import Derived.Test.YtmglfnphkngfdaaWLast
import Derived.Test.YtmglfnphkngfdaaWTab
import Derived.Test.YtmglfnphkngfdaaWFour
import Derived.Test.YtmglfnphkngfdaaWQPut
import Derived.Test.YtmglfnphkngfdaaWApart
import Derived.Test.YtmglfnphkngfdaaWArr
import Derived.Test.YtmglfnphkngfdaaWZeros
import Derived.Test.YtmglfnphkngfdaaWFoot
import Derived.Test.YtmglfnphkngfdaaWKept
import Derived.Test.YtmglfnphkngfdaaWShare
import Derived.Test.YtmglfnphkngfdaaWN
import Derived.Test.YtmglfnphkngfdaaWFootNe
import Derived.Test.YtmglfnphkngfdaaWAt
import Derived.Test.YtmglfnphkngfdaaWEqStruct
import Derived.Test.YtmglfnphkngfdaaWRepsOne
import Derived.Test.YtmglfnphkngfdaaWInv
import Derived.Test.YtmglfnphkngfdaaWInvWords
import Derived.Test.YtmglfnphkngfdaaWGuard
import Derived.Test.YtmglfnphkngfdaaWNEv
import Derived.Test.YtmglfnphkngfdaaWMore
namespace Go.Proofs.Ytmglfnphkngfdaa.XSq
open Go.RowKit Go.Proofs.YtmglfnphkngfdaaW.PrintWords Go.Proofs.YtmglfnphkngfdaaW.PrintLast Go.Proofs.YtmglfnphkngfdaaW.PrintMore
attribute [local go_sem] max2_int min2_int max_two min_two max_three min_three max_four min_four   -- for this text's walks alone
set_option linter.unusedVariables false
set_option linter.unusedSimpArgs false



def errW : Option Int → Value
  | none => .nilIface
  | some c => .iface 0 (.int .i64 c)
theorem errW_none : errW none = .nilIface := rfl
theorem errW_some (c : Int) : errW (some c) = .iface 0 (.int .i64 c) := rfl

theorem info3 : (Try.prog.info? 3).map (fun i => (i.zero, i.size, i.bytes)) = some (some (.int .i64 0), 1, 8) := by kernel_rfl
theorem info5 : (Try.prog.info? 5).map (fun i => (i.zero, i.size, i.bytes)) = some (some (.int .u8 0), 1, 1) := by kernel_rfl
-- the values' own types

end Go.Proofs.Ytmglfnphkngfdaa.XSq
