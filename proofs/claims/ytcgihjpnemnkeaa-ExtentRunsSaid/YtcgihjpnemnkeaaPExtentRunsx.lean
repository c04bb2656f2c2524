-- Written for this claim by a program of this session (wip/), out of the translation's own print: Lean checks it
import Derived.Test.YtcgihjpnemnkeaaPExtentRunsx0
import Derived.Test.YtcgihjpnemnkeaaPExtentRunsx1
import Derived.Test.YtcgihjpnemnkeaaPExtentRunsx2
import Derived.Test.YtcgihjpnemnkeaaPExtentRunsx3
import Derived.Test.YtcgihjpnemnkeaaPExtentRunsx4
import Derived.Test.YtcgihjpnemnkeaaPExtentRunsx5
import Derived.Test.YtcgihjpnemnkeaaPExtentRunsx6
import Derived.Test.YtcgihjpnemnkeaaPExtentRunsx7
import Derived.Test.YtcgihjpnemnkeaaPExtentRunsx8
import Derived.Test.YtcgihjpnemnkeaaPExtentRunsx9
import Derived.Test.YtcgihjpnemnkeaaPExtentRunsx10
import Derived.Test.YtcgihjpnemnkeaaPExtentRunsx11
namespace Go.Proofs.Ytcgihjpnemnkeaa.PExtentRuns
open Go.RowKit Go.Proofs.YtcgihjpnemnkeaaW.PrintWords Go.Proofs.YtcgihjpnemnkeaaW.PrintLast Go.Proofs.YtcgihjpnemnkeaaW.PrintMore
attribute [local go_sem] max2_int min2_int max_two min_two max_three min_three max_four min_four   -- for this text's walks alone
set_option linter.unusedVariables false
set_option linter.unusedSimpArgs false

end Go.Proofs.Ytcgihjpnemnkeaa.PExtentRuns
