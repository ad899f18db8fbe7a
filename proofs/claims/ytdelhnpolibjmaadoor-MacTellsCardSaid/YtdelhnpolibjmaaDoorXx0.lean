-- WRITTEN BY A PROGRAM OF THIS CLAIM'S SESSION (xprint.py, over the kit's print): functions, contracts. Lean checks it.
import Derived.Test.YtdelhnpolibjmaaDoorProg
import Derived.Below
import Derived.Deep.Draws
import Derived.Deep.AppendLies
import Derived.Maps.AppendAt
import Derived.OwnWalk
import Derived.Laws.BytesArg
import Derived.Laws.MakeOwn
import Derived.Laws.OwnMore
import Derived.Deep.OwnRows
import Derived.Tactics
import Derived.Lib.ConvBytes
import Derived.Laws.Slices
import Derived.WalkKit
import Derived.KernelRfl
import Derived.RowKit3
import Derived.Deep.LoopGhost
import Derived.Deep.QuietTactic
import Derived.BigQuiet
import Derived.WideLaws
import Derived.Deep.DeepCutAuto
import Derived.Deep.CutBlock
import Derived.Deep.RegionHeld3
import Derived.Laws.Rows
import Derived.Lib.AppendStr
import Derived.ArgAppend
import Derived.Laws.IdiomCopy
import Derived.OrdersHeld
import Derived.Laws.BitsLemmas
import Derived.RowKit
import Derived.Test.YtdelhnpolibjmaaDoorMacText
import Derived.Test.YtdelhnpolibjmaaDoorWWords
import Derived.Test.YtdelhnpolibjmaaDoorWLast
import Derived.Test.YtdelhnpolibjmaaDoorWTab
import Derived.Test.YtdelhnpolibjmaaDoorWFour
import Derived.Test.YtdelhnpolibjmaaDoorWQPut
import Derived.Test.YtdelhnpolibjmaaDoorWApart
import Derived.Test.YtdelhnpolibjmaaDoorWArr
import Derived.Test.YtdelhnpolibjmaaDoorWZeros
import Derived.Test.YtdelhnpolibjmaaDoorWFoot
import Derived.Test.YtdelhnpolibjmaaDoorWKept
import Derived.Test.YtdelhnpolibjmaaDoorWShare
import Derived.Test.YtdelhnpolibjmaaDoorWN
import Derived.Test.YtdelhnpolibjmaaDoorWFootNe
import Derived.Test.YtdelhnpolibjmaaDoorWAt
import Derived.Test.YtdelhnpolibjmaaDoorWEqStruct
import Derived.Test.YtdelhnpolibjmaaDoorWRepsOne
import Derived.Test.YtdelhnpolibjmaaDoorWInv
import Derived.Test.YtdelhnpolibjmaaDoorWInvWords
import Derived.Test.YtdelhnpolibjmaaDoorWGuard
import Derived.Test.YtdelhnpolibjmaaDoorWNEv
import Derived.Test.YtdelhnpolibjmaaDoorWMore
namespace Go.Proofs.YtdelhnpolibjmaaDoor.X
open Go.RowKit Go.Proofs.YtdelhnpolibjmaaDoorW.PrintWords Go.Proofs.YtdelhnpolibjmaaDoorW.PrintLast Go.Proofs.YtdelhnpolibjmaaDoorW.PrintMore
attribute [local go_sem] max2_int min2_int max_two min_two max_three min_three max_four min_four   -- for this text's walks alone
set_option linter.unusedVariables false
set_option linter.unusedSimpArgs false



def errW : Option Int → Value
  | none => .nilIface
  | some c => .iface 0 (.int .i64 c)
theorem errW_none : errW none = .nilIface := rfl
theorem errW_some (c : Int) : errW (some c) = .iface 0 (.int .i64 c) := rfl

theorem info5 : (Tryd.prog.info? 5).map (fun i => (i.zero, i.size, i.bytes)) = some (some (.int .u8 0), 1, 1) := by kernel_rfl
-- the values' own types

end Go.Proofs.YtdelhnpolibjmaaDoor.X
