-- Written for this claim by a program of this session (wip/), out of the translation's own print: Lean checks it
import Derived.Test.YtcgihjpnemnkeaaPExtentPutx0
import Derived.Test.YtcgihjpnemnkeaaPExtentPutx1
import Derived.Test.YtcgihjpnemnkeaaPExtentPutx2
import Derived.Test.YtcgihjpnemnkeaaPExtentPutx3
import Derived.Test.YtcgihjpnemnkeaaPExtentPutx4
import Derived.Test.YtcgihjpnemnkeaaPExtentPutx5
import Derived.Test.YtcgihjpnemnkeaaPExtentPutx6
import Derived.Test.YtcgihjpnemnkeaaPExtentPutx7
import Derived.Test.YtcgihjpnemnkeaaPExtentPutx8
import Derived.Test.YtcgihjpnemnkeaaPExtentPutx9
import Derived.Test.YtcgihjpnemnkeaaPExtentPutx10
namespace Go.Proofs.Ytcgihjpnemnkeaa.PExtentPut
open Go.RowKit Go.Proofs.YtcgihjpnemnkeaaW.PrintWords Go.Proofs.YtcgihjpnemnkeaaW.PrintLast Go.Proofs.YtcgihjpnemnkeaaW.PrintMore
attribute [local go_sem] max2_int min2_int max_two min_two max_three min_three max_four min_four   -- for this text's walks alone
set_option linter.unusedVariables false
set_option linter.unusedSimpArgs false

end Go.Proofs.Ytcgihjpnemnkeaa.PExtentPut
