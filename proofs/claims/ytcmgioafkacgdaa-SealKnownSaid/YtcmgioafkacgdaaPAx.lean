-- by a program of this session, out of the translation
import Derived.Test.YtcmgioafkacgdaaPAx0
import Derived.Test.YtcmgioafkacgdaaPAx1
import Derived.Test.YtcmgioafkacgdaaPAx2
import Derived.Test.YtcmgioafkacgdaaPAx3
import Derived.Test.YtcmgioafkacgdaaPAx4
import Derived.Test.YtcmgioafkacgdaaPAx5
import Derived.Test.YtcmgioafkacgdaaPAx6
import Derived.Test.YtcmgioafkacgdaaPAx7
import Derived.Test.YtcmgioafkacgdaaPAx8
namespace Go.Proofs.Ytcmgioafkacgdaa.PA
open Go.RowKit Go.Proofs.YtcmgioafkacgdaaW.PrintWords Go.Proofs.YtcmgioafkacgdaaW.PrintLast Go.Proofs.YtcmgioafkacgdaaW.PrintMore
attribute [local go_sem] max2_int min2_int max_two min_two max_three min_three max_four min_four   -- for this text's walks alone
set_option linter.unusedVariables false
set_option linter.unusedSimpArgs false

end Go.Proofs.Ytcmgioafkacgdaa.PA
