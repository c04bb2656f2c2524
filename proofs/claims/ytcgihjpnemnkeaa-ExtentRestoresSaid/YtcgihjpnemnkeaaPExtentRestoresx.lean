-- Written for this claim by a program of this session (wip/), out of the translation's own print: Lean checks it
import Derived.Test.YtcgihjpnemnkeaaPExtentRestoresx0
import Derived.Test.YtcgihjpnemnkeaaPExtentRestoresx1
import Derived.Test.YtcgihjpnemnkeaaPExtentRestoresx2
import Derived.Test.YtcgihjpnemnkeaaPExtentRestoresx3
import Derived.Test.YtcgihjpnemnkeaaPExtentRestoresx4
import Derived.Test.YtcgihjpnemnkeaaPExtentRestoresx5
import Derived.Test.YtcgihjpnemnkeaaPExtentRestoresx6
import Derived.Test.YtcgihjpnemnkeaaPExtentRestoresx7
import Derived.Test.YtcgihjpnemnkeaaPExtentRestoresx8
import Derived.Test.YtcgihjpnemnkeaaPExtentRestoresx9
import Derived.Test.YtcgihjpnemnkeaaPExtentRestoresx10
namespace Go.Proofs.Ytcgihjpnemnkeaa.PExtentRestores
open Go.RowKit Go.Proofs.YtcgihjpnemnkeaaW.PrintWords Go.Proofs.YtcgihjpnemnkeaaW.PrintLast Go.Proofs.YtcgihjpnemnkeaaW.PrintMore
attribute [local go_sem] max2_int min2_int max_two min_two max_three min_three max_four min_four   -- for this text's walks alone
set_option linter.unusedVariables false
set_option linter.unusedSimpArgs false

end Go.Proofs.Ytcgihjpnemnkeaa.PExtentRestores
