-- Written by wip/mprint.py (a program of this session's, over the kit's print). Lean checks it.
import Derived.Test.YtabmmdpioennfaaProg
import Derived.Below
import Derived.Deep.Draws
import Derived.Deep.AppendLies
import Derived.Maps.AppendAt
import Derived.OwnWalk
import Derived.Laws.BytesArg
import Derived.Laws.MakeOwn
import Derived.Laws.OwnMore
import Derived.Deep.OwnRows
import Derived.Tactics
import Derived.Lib.ConvBytes
import Derived.Laws.Slices
import Derived.WalkKit
import Derived.KernelRfl
import Derived.RowKit3
import Derived.Deep.LoopGhost
import Derived.Deep.QuietTactic
import Derived.BigQuiet
import Derived.WideLaws
import Derived.Deep.DeepCutAuto
import Derived.Deep.CutBlock
import Derived.Deep.RegionHeld3
import Derived.Laws.Rows
import Derived.Lib.AppendStr
import Derived.ArgAppend
import Derived.Laws.IdiomCopy
import Derived.OrdersHeld
import Derived.Laws.BitsLemmas
import Derived.RowKit
import Derived.Test.YtabmmdpioennfaaWWords
import Derived.Test.YtabmmdpioennfaaWLast
import Derived.Test.YtabmmdpioennfaaWTab
import Derived.Test.YtabmmdpioennfaaWFour
import Derived.Test.YtabmmdpioennfaaWQPut
import Derived.Test.YtabmmdpioennfaaWApart
import Derived.Test.YtabmmdpioennfaaWArr
import Derived.Test.YtabmmdpioennfaaWZeros
import Derived.Test.YtabmmdpioennfaaWFoot
import Derived.Test.YtabmmdpioennfaaWKept
import Derived.Test.YtabmmdpioennfaaWShare
import Derived.Test.YtabmmdpioennfaaWN
import Derived.Test.YtabmmdpioennfaaWFootNe
import Derived.Test.YtabmmdpioennfaaWAt
import Derived.Test.YtabmmdpioennfaaWEqStruct
import Derived.Test.YtabmmdpioennfaaWRepsOne
import Derived.Test.YtabmmdpioennfaaWInv
import Derived.Test.YtabmmdpioennfaaWInvWords
import Derived.Test.YtabmmdpioennfaaWGuard
import Derived.Test.YtabmmdpioennfaaWNEv
import Derived.Test.YtabmmdpioennfaaWMore
namespace Go.Proofs.Ytabmmdpioennfaa.Hd
open Go.RowKit Go.Proofs.YtabmmdpioennfaaW.PrintWords Go.Proofs.YtabmmdpioennfaaW.PrintLast Go.Proofs.YtabmmdpioennfaaW.PrintMore
attribute [local go_sem] max2_int min2_int max_two min_two max_three min_three max_four min_four   -- for this text's walks alone
set_option linter.unusedVariables false
set_option linter.unusedSimpArgs false



def errW : Option Int → Value
  | none => .nilIface
  | some c => .iface 0 (.int .i64 c)
theorem errW_none : errW none = .nilIface := rfl
theorem errW_some (c : Int) : errW (some c) = .iface 0 (.int .i64 c) := rfl

-- the values' own types

end Go.Proofs.Ytabmmdpioennfaa.Hd
