-- Written for this claim by a program of this session (wip/), out of the translation's own print: Lean checks it
import Derived.Test.YtcgihjpnemnkeaaPExtentMapsx0
import Derived.Test.YtcgihjpnemnkeaaPExtentMapsx1
import Derived.Test.YtcgihjpnemnkeaaPExtentMapsx2
import Derived.Test.YtcgihjpnemnkeaaPExtentMapsx3
import Derived.Test.YtcgihjpnemnkeaaPExtentMapsx4
import Derived.Test.YtcgihjpnemnkeaaPExtentMapsx5
import Derived.Test.YtcgihjpnemnkeaaPExtentMapsx6
import Derived.Test.YtcgihjpnemnkeaaPExtentMapsx7
import Derived.Test.YtcgihjpnemnkeaaPExtentMapsx8
import Derived.Test.YtcgihjpnemnkeaaPExtentMapsx9
import Derived.Test.YtcgihjpnemnkeaaPExtentMapsx10
namespace Go.Proofs.Ytcgihjpnemnkeaa.PExtentMaps
open Go.RowKit Go.Proofs.YtcgihjpnemnkeaaW.PrintWords Go.Proofs.YtcgihjpnemnkeaaW.PrintLast Go.Proofs.YtcgihjpnemnkeaaW.PrintMore
attribute [local go_sem] max2_int min2_int max_two min_two max_three min_three max_four min_four   -- for this text's walks alone
set_option linter.unusedVariables false
set_option linter.unusedSimpArgs false

end Go.Proofs.Ytcgihjpnemnkeaa.PExtentMaps
