-- Written for this claim by a program of this session (wip/), out of the translation's own print: Lean checks it
import Derived.Test.YtcjpikjbjehjeaaPAllocx0
import Derived.Test.YtcjpikjbjehjeaaPAllocx1
import Derived.Test.YtcjpikjbjehjeaaPAllocx2
import Derived.Test.YtcjpikjbjehjeaaPAllocx3
import Derived.Test.YtcjpikjbjehjeaaPAllocx4
import Derived.Test.YtcjpikjbjehjeaaPAllocx5
import Derived.Test.YtcjpikjbjehjeaaPAllocx6
import Derived.Test.YtcjpikjbjehjeaaPAllocx7
import Derived.Test.YtcjpikjbjehjeaaPAllocx8
import Derived.Test.YtcjpikjbjehjeaaPAllocx9
import Derived.Test.YtcjpikjbjehjeaaPAllocx10
import Derived.Test.YtcjpikjbjehjeaaPAllocx11
namespace Go.Proofs.Ytcjpikjbjehjeaa.PAlloc
open Go.RowKit Go.Proofs.YtcjpikjbjehjeaaW.PrintWords Go.Proofs.YtcjpikjbjehjeaaW.PrintLast Go.Proofs.YtcjpikjbjehjeaaW.PrintMore
attribute [local go_sem] max2_int min2_int max_two min_two max_three min_three max_four min_four   -- for this text's walks alone
set_option linter.unusedVariables false
set_option linter.unusedSimpArgs false

end Go.Proofs.Ytcjpikjbjehjeaa.PAlloc
