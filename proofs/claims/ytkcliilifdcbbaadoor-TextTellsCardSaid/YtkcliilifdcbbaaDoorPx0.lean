-- Written by a program of this session over the seat's translation: functions and their contracts. Lean checks it.
import Derived.Test.YtkcliilifdcbbaaDoorProg
import Derived.Below
import Derived.Deep.Draws
import Derived.Deep.AppendLies
import Derived.Maps.AppendAt
import Derived.OwnWalk
import Derived.Laws.BytesArg
import Derived.Laws.MakeOwn
import Derived.Laws.OwnMore
import Derived.Deep.OwnRows
import Derived.Tactics
import Derived.Lib.ConvBytes
import Derived.Laws.Slices
import Derived.WalkKit
import Derived.KernelRfl
import Derived.RowKit3
import Derived.Deep.LoopGhost
import Derived.Deep.QuietTactic
import Derived.BigQuiet
import Derived.WideLaws
import Derived.Deep.DeepCutAuto
import Derived.Deep.CutBlock
import Derived.Deep.RegionHeld3
import Derived.Laws.Rows
import Derived.Lib.AppendStr
import Derived.ArgAppend
import Derived.Laws.IdiomCopy
import Derived.OrdersHeld
import Derived.Laws.BitsLemmas
import Derived.RowKit
import Derived.Lib.Hide
import Derived.Test.YtkcliilifdcbbaaDoorGlob
import Derived.Test.YtkcliilifdcbbaaDoorWWords
import Derived.Test.YtkcliilifdcbbaaDoorWLast
import Derived.Test.YtkcliilifdcbbaaDoorWTab
import Derived.Test.YtkcliilifdcbbaaDoorWFour
import Derived.Test.YtkcliilifdcbbaaDoorWQPut
import Derived.Test.YtkcliilifdcbbaaDoorWApart
import Derived.Test.YtkcliilifdcbbaaDoorWArr
import Derived.Test.YtkcliilifdcbbaaDoorWZeros
import Derived.Test.YtkcliilifdcbbaaDoorWFoot
import Derived.Test.YtkcliilifdcbbaaDoorWKept
import Derived.Test.YtkcliilifdcbbaaDoorWShare
import Derived.Test.YtkcliilifdcbbaaDoorWN
import Derived.Test.YtkcliilifdcbbaaDoorWFootNe
import Derived.Test.YtkcliilifdcbbaaDoorWAt
import Derived.Test.YtkcliilifdcbbaaDoorWEqStruct
import Derived.Test.YtkcliilifdcbbaaDoorWRepsOne
import Derived.Test.YtkcliilifdcbbaaDoorWInv
import Derived.Test.YtkcliilifdcbbaaDoorWInvWords
import Derived.Test.YtkcliilifdcbbaaDoorWGuard
import Derived.Test.YtkcliilifdcbbaaDoorWNEv
import Derived.Test.YtkcliilifdcbbaaDoorWMore
namespace Go.Proofs.YtkcliilifdcbbaaDoor.P
open Go.RowKit Go.Proofs.YtkcliilifdcbbaaDoorW.PrintWords Go.Proofs.YtkcliilifdcbbaaDoorW.PrintLast Go.Proofs.YtkcliilifdcbbaaDoorW.PrintMore
attribute [local go_sem] max2_int min2_int max_two min_two max_three min_three max_four min_four   -- for this text's walks alone
set_option linter.unusedVariables false
set_option linter.unusedSimpArgs false



def errW : Option Int → Value
  | none => .nilIface
  | some c => .iface 0 (.int .i64 c)
theorem errW_none : errW none = .nilIface := rfl
theorem errW_some (c : Int) : errW (some c) = .iface 0 (.int .i64 c) := rfl

theorem info5 : (Tryd.prog.info? 5).map (fun i => (i.zero, i.size, i.bytes)) = some (some (.int .u8 0), 1, 1) := by kernel_rfl
-- the values' own types

end Go.Proofs.YtkcliilifdcbbaaDoor.P
