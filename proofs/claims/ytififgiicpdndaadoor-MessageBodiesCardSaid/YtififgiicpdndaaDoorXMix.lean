-- Printed by wip/tools/xprint.py of this claim's session: the kit's print over contracts of its own.
import Derived.Test.YtififgiicpdndaaDoorXMix0
import Derived.Test.YtififgiicpdndaaDoorXMix1
import Derived.Test.YtififgiicpdndaaDoorXMix2
import Derived.Test.YtififgiicpdndaaDoorXMix3
import Derived.Test.YtififgiicpdndaaDoorXMix4
import Derived.Test.YtififgiicpdndaaDoorXMix5
namespace Go.Proofs.YtififgiicpdndaaDoor.XMi
open Go.RowKit Go.Proofs.YtififgiicpdndaaDoorW.PrintWords Go.Proofs.YtififgiicpdndaaDoorW.PrintLast Go.Proofs.YtififgiicpdndaaDoorW.PrintMore
attribute [local go_sem] max2_int min2_int max_two min_two max_three min_three max_four min_four   -- for this text's walks alone
set_option linter.unusedVariables false
set_option linter.unusedSimpArgs false

end Go.Proofs.YtififgiicpdndaaDoor.XMi
