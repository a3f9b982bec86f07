-- Printed by wip/tools/xprint.py of this claim's session: the kit's print over contracts of its own.
import Derived.Test.YtififgiicpdndaaGreatDoorXMix0
import Derived.Test.YtififgiicpdndaaGreatDoorXMix7
import Derived.Test.YtififgiicpdndaaGreatDoorXMix8
namespace Go.Proofs.YtififgiicpdndaaGreatDoor.XMi
open Go.RowKit Go.Proofs.YtififgiicpdndaaGreatDoorW.PrintWords Go.Proofs.YtififgiicpdndaaGreatDoorW.PrintLast Go.Proofs.YtififgiicpdndaaGreatDoorW.PrintMore
attribute [local go_sem] max2_int min2_int max_two min_two max_three min_three max_four min_four   -- for this text's walks alone
set_option linter.unusedVariables false
set_option linter.unusedSimpArgs false

-- NOT PRINTED: function 67 (bywashref1_Reader_headers)

-- NOT PRINTED: function 21 (bywashref1_Reader_Headers)

-- NOT PRINTED: function 22 (message_Reader_Data)

-- NOT PRINTED: function 68 (bywashref1_Reader_data)

-- NOT PRINTED: function 23 (bywashref1_Reader_Data)

-- NOT PRINTED: function 25 (message_Reader_Fields)

-- NOT PRINTED: function 26 (message_Reader_Trailers)

-- NOT PRINTED: function 4 (bywashlaw15_MessagePlays)

end Go.Proofs.YtififgiicpdndaaGreatDoor.XMi
