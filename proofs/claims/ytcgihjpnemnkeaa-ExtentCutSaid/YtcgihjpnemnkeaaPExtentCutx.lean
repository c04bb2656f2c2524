-- Written for this claim by a program of this session (wip/), out of the translation's own print: Lean checks it
import Derived.Test.YtcgihjpnemnkeaaPExtentCutx0
import Derived.Test.YtcgihjpnemnkeaaPExtentCutx1
import Derived.Test.YtcgihjpnemnkeaaPExtentCutx2
import Derived.Test.YtcgihjpnemnkeaaPExtentCutx3
import Derived.Test.YtcgihjpnemnkeaaPExtentCutx4
import Derived.Test.YtcgihjpnemnkeaaPExtentCutx5
import Derived.Test.YtcgihjpnemnkeaaPExtentCutx6
import Derived.Test.YtcgihjpnemnkeaaPExtentCutx7
import Derived.Test.YtcgihjpnemnkeaaPExtentCutx8
import Derived.Test.YtcgihjpnemnkeaaPExtentCutx9
import Derived.Test.YtcgihjpnemnkeaaPExtentCutx10
namespace Go.Proofs.Ytcgihjpnemnkeaa.PExtentCut
open Go.RowKit Go.Proofs.YtcgihjpnemnkeaaW.PrintWords Go.Proofs.YtcgihjpnemnkeaaW.PrintLast Go.Proofs.YtcgihjpnemnkeaaW.PrintMore
attribute [local go_sem] max2_int min2_int max_two min_two max_three min_three max_four min_four   -- for this text's walks alone
set_option linter.unusedVariables false
set_option linter.unusedSimpArgs false

end Go.Proofs.Ytcgihjpnemnkeaa.PExtentCut
