-- Written for this claim by a program of this session (wip/), out of the translation's own print: Lean checks it
import Derived.Test.YtcjpikjbjehjeaaPAllocBx0
import Derived.Test.YtcjpikjbjehjeaaPAllocBx1
import Derived.Test.YtcjpikjbjehjeaaPAllocBx2
import Derived.Test.YtcjpikjbjehjeaaPAllocBx3
import Derived.Test.YtcjpikjbjehjeaaPAllocBx4
import Derived.Test.YtcjpikjbjehjeaaPAllocBx5
import Derived.Test.YtcjpikjbjehjeaaPAllocBx6
import Derived.Test.YtcjpikjbjehjeaaPAllocBx7
import Derived.Test.YtcjpikjbjehjeaaPAllocBx8
import Derived.Test.YtcjpikjbjehjeaaPAllocBx9
import Derived.Test.YtcjpikjbjehjeaaPAllocBx10
import Derived.Test.YtcjpikjbjehjeaaPAllocBx11
import Derived.Test.YtcjpikjbjehjeaaPAllocBx12
import Derived.Test.YtcjpikjbjehjeaaPAllocBx13
import Derived.Test.YtcjpikjbjehjeaaPAllocBx14
import Derived.Test.YtcjpikjbjehjeaaPAllocBx15
import Derived.Test.YtcjpikjbjehjeaaPAllocBx16
import Derived.Test.YtcjpikjbjehjeaaPAllocBx17
import Derived.Test.YtcjpikjbjehjeaaPAllocBx18
import Derived.Test.YtcjpikjbjehjeaaPAllocBx19
import Derived.Test.YtcjpikjbjehjeaaPAllocBx20
namespace Go.Proofs.Ytcjpikjbjehjeaa.PAllocB
open Go.RowKit Go.Proofs.YtcjpikjbjehjeaaW.PrintWords Go.Proofs.YtcjpikjbjehjeaaW.PrintLast Go.Proofs.YtcjpikjbjehjeaaW.PrintMore
attribute [local go_sem] max2_int min2_int max_two min_two max_three min_three max_four min_four   -- for this text's walks alone
set_option linter.unusedVariables false
set_option linter.unusedSimpArgs false

end Go.Proofs.Ytcjpikjbjehjeaa.PAllocB
