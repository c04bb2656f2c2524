-- Written for this claim by a program of this session (wip/), out of the translation's own print: Lean checks it
import Derived.Test.YtcgihjpnemnkeaaPExtentUniquex0
import Derived.Test.YtcgihjpnemnkeaaPExtentUniquex1
import Derived.Test.YtcgihjpnemnkeaaPExtentUniquex2
import Derived.Test.YtcgihjpnemnkeaaPExtentUniquex3
import Derived.Test.YtcgihjpnemnkeaaPExtentUniquex4
import Derived.Test.YtcgihjpnemnkeaaPExtentUniquex5
import Derived.Test.YtcgihjpnemnkeaaPExtentUniquex6
import Derived.Test.YtcgihjpnemnkeaaPExtentUniquex7
import Derived.Test.YtcgihjpnemnkeaaPExtentUniquex8
import Derived.Test.YtcgihjpnemnkeaaPExtentUniquex9
namespace Go.Proofs.Ytcgihjpnemnkeaa.PExtentUnique
open Go.RowKit Go.Proofs.YtcgihjpnemnkeaaW.PrintWords Go.Proofs.YtcgihjpnemnkeaaW.PrintLast Go.Proofs.YtcgihjpnemnkeaaW.PrintMore
attribute [local go_sem] max2_int min2_int max_two min_two max_three min_three max_four min_four   -- for this text's walks alone
set_option linter.unusedVariables false
set_option linter.unusedSimpArgs false

end Go.Proofs.Ytcgihjpnemnkeaa.PExtentUnique
