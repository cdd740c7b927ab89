-- WRITTEN BY A PROGRAM OF THIS SESSION over the walks that the kit prints; contracts of functions that the print does not take are this session's own
import Derived.Test.YtiigbilpoakgiaaProg
import Derived.Below
import Derived.Deep.Draws
import Derived.Deep.AppendLies
import Derived.Maps.AppendAt
import Derived.OwnWalk
import Derived.Laws.BytesArg
import Derived.Laws.MakeOwn
import Derived.Laws.OwnMore
import Derived.Deep.OwnRows
import Derived.Tactics
import Derived.Lib.ConvBytes
import Derived.Laws.Slices
import Derived.WalkKit
import Derived.KernelRfl
import Derived.RowKit3
import Derived.Deep.LoopGhost
import Derived.Deep.QuietTactic
import Derived.BigQuiet
import Derived.WideLaws
import Derived.Deep.DeepCutAuto
import Derived.Deep.CutBlock
import Derived.Deep.RegionHeld3
import Derived.Laws.Rows
import Derived.Lib.AppendStr
import Derived.ArgAppend
import Derived.Laws.IdiomCopy
import Derived.OrdersHeld
import Derived.Laws.BitsLemmas
import Derived.RowKit
import Derived.Test.YtiigbilpoakgiaaWWords
import Derived.Test.YtiigbilpoakgiaaWLast
import Derived.Test.YtiigbilpoakgiaaWTab
import Derived.Test.YtiigbilpoakgiaaWFour
import Derived.Test.YtiigbilpoakgiaaWQPut
import Derived.Test.YtiigbilpoakgiaaWApart
import Derived.Test.YtiigbilpoakgiaaWArr
import Derived.Test.YtiigbilpoakgiaaWZeros
import Derived.Test.YtiigbilpoakgiaaWFoot
import Derived.Test.YtiigbilpoakgiaaWKept
import Derived.Test.YtiigbilpoakgiaaWShare
import Derived.Test.YtiigbilpoakgiaaWN
import Derived.Test.YtiigbilpoakgiaaWFootNe
import Derived.Test.YtiigbilpoakgiaaWAt
import Derived.Test.YtiigbilpoakgiaaWEqStruct
import Derived.Test.YtiigbilpoakgiaaWRepsOne
import Derived.Test.YtiigbilpoakgiaaWInv
import Derived.Test.YtiigbilpoakgiaaWInvWords
import Derived.Test.YtiigbilpoakgiaaWGuard
import Derived.Test.YtiigbilpoakgiaaWNEv
import Derived.Test.YtiigbilpoakgiaaWMore
namespace Go.Proofs.Ytiigbilpoakgiaa.RTimes
open Go.RowKit Go.Proofs.YtiigbilpoakgiaaW.PrintWords Go.Proofs.YtiigbilpoakgiaaW.PrintLast Go.Proofs.YtiigbilpoakgiaaW.PrintMore
attribute [local go_sem] max2_int min2_int max_two min_two max_three min_three max_four min_four   -- for this text's walks alone
set_option linter.unusedVariables false
set_option linter.unusedSimpArgs false



def errW : Option Int → Value
  | none => .nilIface
  | some c => .iface 0 (.int .i64 c)
theorem errW_none : errW none = .nilIface := rfl
theorem errW_some (c : Int) : errW (some c) = .iface 0 (.int .i64 c) := rfl

-- the values' own types

end Go.Proofs.Ytiigbilpoakgiaa.RTimes
