-- Written by a program of mine (wip/tools/xprint.py) over the kit's print.py: printed functions and hand-proved ones side by side.
import Derived.Test.YtcbhaoaameiacaaDoorProg
import Derived.Below
import Derived.Deep.Draws
import Derived.Deep.AppendLies
import Derived.Maps.AppendAt
import Derived.OwnWalk
import Derived.Laws.BytesArg
import Derived.Laws.MakeOwn
import Derived.Laws.OwnMore
import Derived.Deep.OwnRows
import Derived.Tactics
import Derived.Lib.ConvBytes
import Derived.Laws.Slices
import Derived.WalkKit
import Derived.KernelRfl
import Derived.RowKit3
import Derived.Deep.LoopGhost
import Derived.Deep.QuietTactic
import Derived.BigQuiet
import Derived.WideLaws
import Derived.Deep.DeepCutAuto
import Derived.Deep.CutBlock
import Derived.Deep.RegionHeld3
import Derived.Laws.Rows
import Derived.Lib.AppendStr
import Derived.ArgAppend
import Derived.Laws.IdiomCopy
import Derived.OrdersHeld
import Derived.Laws.BitsLemmas
import Derived.RowKit
import Derived.Test.YtcbhaoaameiacaaDoorHand
import Derived.Test.YtcbhaoaameiacaaDoorWWords
import Derived.Test.YtcbhaoaameiacaaDoorWLast
import Derived.Test.YtcbhaoaameiacaaDoorWTab
import Derived.Test.YtcbhaoaameiacaaDoorWFour
import Derived.Test.YtcbhaoaameiacaaDoorWQPut
import Derived.Test.YtcbhaoaameiacaaDoorWApart
import Derived.Test.YtcbhaoaameiacaaDoorWArr
import Derived.Test.YtcbhaoaameiacaaDoorWZeros
import Derived.Test.YtcbhaoaameiacaaDoorWFoot
import Derived.Test.YtcbhaoaameiacaaDoorWKept
import Derived.Test.YtcbhaoaameiacaaDoorWShare
import Derived.Test.YtcbhaoaameiacaaDoorWN
import Derived.Test.YtcbhaoaameiacaaDoorWFootNe
import Derived.Test.YtcbhaoaameiacaaDoorWAt
import Derived.Test.YtcbhaoaameiacaaDoorWEqStruct
import Derived.Test.YtcbhaoaameiacaaDoorWRepsOne
import Derived.Test.YtcbhaoaameiacaaDoorWInv
import Derived.Test.YtcbhaoaameiacaaDoorWInvWords
import Derived.Test.YtcbhaoaameiacaaDoorWGuard
import Derived.Test.YtcbhaoaameiacaaDoorWNEv
import Derived.Test.YtcbhaoaameiacaaDoorWMore
namespace Go.Proofs.YtcbhaoaameiacaaDoor.X
open Go.RowKit Go.Proofs.YtcbhaoaameiacaaDoorW.PrintWords Go.Proofs.YtcbhaoaameiacaaDoorW.PrintLast Go.Proofs.YtcbhaoaameiacaaDoorW.PrintMore
attribute [local go_sem] max2_int min2_int max_two min_two max_three min_three max_four min_four   -- for this text's walks alone
set_option linter.unusedVariables false
set_option linter.unusedSimpArgs false



def errW : Option Int → Value
  | none => .nilIface
  | some c => .iface 0 (.int .i64 c)
theorem errW_none : errW none = .nilIface := rfl
theorem errW_some (c : Int) : errW (some c) = .iface 0 (.int .i64 c) := rfl

theorem info3 : (Tryd.prog.info? 3).map (fun i => (i.zero, i.size, i.bytes)) = some (some (.int .i64 0), 1, 8) := by kernel_rfl
theorem info5 : (Tryd.prog.info? 5).map (fun i => (i.zero, i.size, i.bytes)) = some (some (.int .u8 0), 1, 1) := by kernel_rfl
-- the values' own types

end Go.Proofs.YtcbhaoaameiacaaDoor.X
