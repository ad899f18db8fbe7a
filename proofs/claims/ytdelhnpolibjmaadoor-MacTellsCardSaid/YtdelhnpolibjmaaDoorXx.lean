-- WRITTEN BY A PROGRAM OF THIS CLAIM'S SESSION (xprint.py, over the kit's print): functions, contracts. Lean checks it.
import Derived.Test.YtdelhnpolibjmaaDoorXx0
import Derived.Test.YtdelhnpolibjmaaDoorXx1
import Derived.Test.YtdelhnpolibjmaaDoorXx2
namespace Go.Proofs.YtdelhnpolibjmaaDoor.X
open Go.RowKit Go.Proofs.YtdelhnpolibjmaaDoorW.PrintWords Go.Proofs.YtdelhnpolibjmaaDoorW.PrintLast Go.Proofs.YtdelhnpolibjmaaDoorW.PrintMore
attribute [local go_sem] max2_int min2_int max_two min_two max_three min_three max_four min_four   -- for this text's walks alone
set_option linter.unusedVariables false
set_option linter.unusedSimpArgs false

end Go.Proofs.YtdelhnpolibjmaaDoor.X
