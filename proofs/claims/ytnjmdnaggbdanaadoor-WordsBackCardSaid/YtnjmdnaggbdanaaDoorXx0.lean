-- WRITTEN BY A PROGRAM OF THIS CLAIM'S SESSION (xprint.py, over the kit's print): functions, contracts. Lean checks it.
import Derived.Test.YtnjmdnaggbdanaaDoorProg
import Derived.Below
import Derived.Deep.Draws
import Derived.Deep.AppendLies
import Derived.Maps.AppendAt
import Derived.OwnWalk
import Derived.Laws.BytesArg
import Derived.Laws.MakeOwn
import Derived.Laws.OwnMore
import Derived.Deep.OwnRows
import Derived.Tactics
import Derived.Lib.ConvBytes
import Derived.Laws.Slices
import Derived.WalkKit
import Derived.KernelRfl
import Derived.RowKit3
import Derived.Deep.LoopGhost
import Derived.Deep.QuietTactic
import Derived.BigQuiet
import Derived.WideLaws
import Derived.Deep.DeepCutAuto
import Derived.Deep.CutBlock
import Derived.Deep.RegionHeld3
import Derived.Laws.Rows
import Derived.Lib.AppendStr
import Derived.ArgAppend
import Derived.Laws.IdiomCopy
import Derived.OrdersHeld
import Derived.Laws.BitsLemmas
import Derived.RowKit
import Derived.Test.YtnjmdnaggbdanaaDoorNum
import Derived.Test.YtnjmdnaggbdanaaDoorWWords
import Derived.Test.YtnjmdnaggbdanaaDoorWLast
import Derived.Test.YtnjmdnaggbdanaaDoorWTab
import Derived.Test.YtnjmdnaggbdanaaDoorWFour
import Derived.Test.YtnjmdnaggbdanaaDoorWQPut
import Derived.Test.YtnjmdnaggbdanaaDoorWApart
import Derived.Test.YtnjmdnaggbdanaaDoorWArr
import Derived.Test.YtnjmdnaggbdanaaDoorWZeros
import Derived.Test.YtnjmdnaggbdanaaDoorWFoot
import Derived.Test.YtnjmdnaggbdanaaDoorWKept
import Derived.Test.YtnjmdnaggbdanaaDoorWShare
import Derived.Test.YtnjmdnaggbdanaaDoorWN
import Derived.Test.YtnjmdnaggbdanaaDoorWFootNe
import Derived.Test.YtnjmdnaggbdanaaDoorWAt
import Derived.Test.YtnjmdnaggbdanaaDoorWEqStruct
import Derived.Test.YtnjmdnaggbdanaaDoorWRepsOne
import Derived.Test.YtnjmdnaggbdanaaDoorWInv
import Derived.Test.YtnjmdnaggbdanaaDoorWInvWords
import Derived.Test.YtnjmdnaggbdanaaDoorWGuard
import Derived.Test.YtnjmdnaggbdanaaDoorWNEv
import Derived.Test.YtnjmdnaggbdanaaDoorWMore
namespace Go.Proofs.YtnjmdnaggbdanaaDoor.X
open Go.RowKit Go.Proofs.YtnjmdnaggbdanaaDoorW.PrintWords Go.Proofs.YtnjmdnaggbdanaaDoorW.PrintLast Go.Proofs.YtnjmdnaggbdanaaDoorW.PrintMore
attribute [local go_sem] max2_int min2_int max_two min_two max_three min_three max_four min_four   -- for this text's walks alone
set_option linter.unusedVariables false
set_option linter.unusedSimpArgs false



def errW : Option Int → Value
  | none => .nilIface
  | some c => .iface 0 (.int .i64 c)
theorem errW_none : errW none = .nilIface := rfl
theorem errW_some (c : Int) : errW (some c) = .iface 0 (.int .i64 c) := rfl

theorem info5 : (Tryd.prog.info? 5).map (fun i => (i.zero, i.size, i.bytes)) = some (some (.int .u8 0), 1, 1) := by kernel_rfl
theorem info9 : (Tryd.prog.info? 9).map (fun i => (i.zero, i.size, i.bytes)) = some (some (.string ⟨#[]⟩), 1, 16) := by kernel_rfl
-- the values' own types

end Go.Proofs.YtnjmdnaggbdanaaDoor.X
