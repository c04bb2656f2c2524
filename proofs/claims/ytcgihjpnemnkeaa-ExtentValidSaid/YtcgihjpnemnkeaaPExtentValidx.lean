-- Written for this claim by a program of this session (wip/), out of the translation's own print: Lean checks it
import Derived.Test.YtcgihjpnemnkeaaPExtentValidx0
import Derived.Test.YtcgihjpnemnkeaaPExtentValidx1
import Derived.Test.YtcgihjpnemnkeaaPExtentValidx2
import Derived.Test.YtcgihjpnemnkeaaPExtentValidx3
import Derived.Test.YtcgihjpnemnkeaaPExtentValidx4
import Derived.Test.YtcgihjpnemnkeaaPExtentValidx5
import Derived.Test.YtcgihjpnemnkeaaPExtentValidx6
import Derived.Test.YtcgihjpnemnkeaaPExtentValidx7
import Derived.Test.YtcgihjpnemnkeaaPExtentValidx8
import Derived.Test.YtcgihjpnemnkeaaPExtentValidx9
import Derived.Test.YtcgihjpnemnkeaaPExtentValidx10
namespace Go.Proofs.Ytcgihjpnemnkeaa.PExtentValid
open Go.RowKit Go.Proofs.YtcgihjpnemnkeaaW.PrintWords Go.Proofs.YtcgihjpnemnkeaaW.PrintLast Go.Proofs.YtcgihjpnemnkeaaW.PrintMore
attribute [local go_sem] max2_int min2_int max_two min_two max_three min_three max_four min_four   -- for this text's walks alone
set_option linter.unusedVariables false
set_option linter.unusedSimpArgs false

end Go.Proofs.Ytcgihjpnemnkeaa.PExtentValid
