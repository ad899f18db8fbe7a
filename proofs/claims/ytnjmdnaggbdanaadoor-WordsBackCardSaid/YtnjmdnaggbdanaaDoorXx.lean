-- WRITTEN BY A PROGRAM OF THIS CLAIM'S SESSION (xprint.py, over the kit's print): functions, contracts. Lean checks it.
import Derived.Test.YtnjmdnaggbdanaaDoorXx0
import Derived.Test.YtnjmdnaggbdanaaDoorXx1
import Derived.Test.YtnjmdnaggbdanaaDoorXx2
import Derived.Test.YtnjmdnaggbdanaaDoorXx3
import Derived.Test.YtnjmdnaggbdanaaDoorXx4
namespace Go.Proofs.YtnjmdnaggbdanaaDoor.X
open Go.RowKit Go.Proofs.YtnjmdnaggbdanaaDoorW.PrintWords Go.Proofs.YtnjmdnaggbdanaaDoorW.PrintLast Go.Proofs.YtnjmdnaggbdanaaDoorW.PrintMore
attribute [local go_sem] max2_int min2_int max_two min_two max_three min_three max_four min_four   -- for this text's walks alone
set_option linter.unusedVariables false
set_option linter.unusedSimpArgs false

end Go.Proofs.YtnjmdnaggbdanaaDoor.X
