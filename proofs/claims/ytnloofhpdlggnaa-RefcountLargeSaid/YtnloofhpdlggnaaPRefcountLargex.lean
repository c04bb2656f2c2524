-- Written for this claim by a program of this session (wip/), out of the translation's own print: Lean checks it
import Derived.Test.YtnloofhpdlggnaaPRefcountLargex0
import Derived.Test.YtnloofhpdlggnaaPRefcountLargex1
import Derived.Test.YtnloofhpdlggnaaPRefcountLargex2
import Derived.Test.YtnloofhpdlggnaaPRefcountLargex3
import Derived.Test.YtnloofhpdlggnaaPRefcountLargex4
import Derived.Test.YtnloofhpdlggnaaPRefcountLargex5
import Derived.Test.YtnloofhpdlggnaaPRefcountLargex6
import Derived.Test.YtnloofhpdlggnaaPRefcountLargex7
import Derived.Test.YtnloofhpdlggnaaPRefcountLargex8
import Derived.Test.YtnloofhpdlggnaaPRefcountLargex9
namespace Go.Proofs.Ytnloofhpdlggnaa.PRefcountLarge
open Go.RowKit Go.Proofs.YtnloofhpdlggnaaW.PrintWords Go.Proofs.YtnloofhpdlggnaaW.PrintLast Go.Proofs.YtnloofhpdlggnaaW.PrintMore
attribute [local go_sem] max2_int min2_int max_two min_two max_three min_three max_four min_four   -- for this text's walks alone
set_option linter.unusedVariables false
set_option linter.unusedSimpArgs false

end Go.Proofs.Ytnloofhpdlggnaa.PRefcountLarge
