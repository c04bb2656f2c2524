-- Written for this claim by a program of this session (wip/), out of the translation's own print: Lean checks it
import Derived.Test.YtcgihjpnemnkeaaPExtentFindx0
import Derived.Test.YtcgihjpnemnkeaaPExtentFindx1
import Derived.Test.YtcgihjpnemnkeaaPExtentFindx2
import Derived.Test.YtcgihjpnemnkeaaPExtentFindx3
import Derived.Test.YtcgihjpnemnkeaaPExtentFindx4
import Derived.Test.YtcgihjpnemnkeaaPExtentFindx5
import Derived.Test.YtcgihjpnemnkeaaPExtentFindx6
import Derived.Test.YtcgihjpnemnkeaaPExtentFindx7
import Derived.Test.YtcgihjpnemnkeaaPExtentFindx8
import Derived.Test.YtcgihjpnemnkeaaPExtentFindx9
namespace Go.Proofs.Ytcgihjpnemnkeaa.PExtentFind
open Go.RowKit Go.Proofs.YtcgihjpnemnkeaaW.PrintWords Go.Proofs.YtcgihjpnemnkeaaW.PrintLast Go.Proofs.YtcgihjpnemnkeaaW.PrintMore
attribute [local go_sem] max2_int min2_int max_two min_two max_three min_three max_four min_four   -- for this text's walks alone
set_option linter.unusedVariables false
set_option linter.unusedSimpArgs false

end Go.Proofs.Ytcgihjpnemnkeaa.PExtentFind
