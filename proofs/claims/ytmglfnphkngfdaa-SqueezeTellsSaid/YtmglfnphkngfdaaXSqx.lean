-- Printed by wip/tools/xprint.py of this claim's session: the kit's print over contracts of its own.
import Derived.Test.YtmglfnphkngfdaaXSqx0
import Derived.Test.YtmglfnphkngfdaaXSqx1
import Derived.Test.YtmglfnphkngfdaaXSqx2
import Derived.Test.YtmglfnphkngfdaaXSqx3
import Derived.Test.YtmglfnphkngfdaaXSqx4
import Derived.Test.YtmglfnphkngfdaaXSqx5
import Derived.Test.YtmglfnphkngfdaaXSqx6
import Derived.Test.YtmglfnphkngfdaaXSqx7
import Derived.Test.YtmglfnphkngfdaaXSqx8
import Derived.Test.YtmglfnphkngfdaaXSqx9
namespace Go.Proofs.Ytmglfnphkngfdaa.XSq
open Go.RowKit Go.Proofs.YtmglfnphkngfdaaW.PrintWords Go.Proofs.YtmglfnphkngfdaaW.PrintLast Go.Proofs.YtmglfnphkngfdaaW.PrintMore
attribute [local go_sem] max2_int min2_int max_two min_two max_three min_three max_four min_four   -- for this text's walks alone
set_option linter.unusedVariables false
set_option linter.unusedSimpArgs false

end Go.Proofs.Ytmglfnphkngfdaa.XSq
