-- Printed by wip/tools/xprint.py of this claim's session: the kit's print over contracts of its own.
import Derived.Test.YtohphkdemonlkaaXQtx0
import Derived.Test.YtohphkdemonlkaaXQtx1
import Derived.Test.YtohphkdemonlkaaXQtx2
import Derived.Test.YtohphkdemonlkaaXQtx3
import Derived.Test.YtohphkdemonlkaaXQtx4
import Derived.Test.YtohphkdemonlkaaXQtx5
import Derived.Test.YtohphkdemonlkaaXQtx6
import Derived.Test.YtohphkdemonlkaaXQtx7
import Derived.Test.YtohphkdemonlkaaXQtx8
import Derived.Test.YtohphkdemonlkaaXQtx9
namespace Go.Proofs.Ytohphkdemonlkaa.XQt
open Go.RowKit Go.Proofs.YtohphkdemonlkaaW.PrintWords Go.Proofs.YtohphkdemonlkaaW.PrintLast Go.Proofs.YtohphkdemonlkaaW.PrintMore
attribute [local go_sem] max2_int min2_int max_two min_two max_three min_three max_four min_four   -- for this text's walks alone
set_option linter.unusedVariables false
set_option linter.unusedSimpArgs false

end Go.Proofs.Ytohphkdemonlkaa.XQt
