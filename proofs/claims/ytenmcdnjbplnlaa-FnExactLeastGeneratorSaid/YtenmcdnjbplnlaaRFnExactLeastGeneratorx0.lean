-- WRITTEN BY A PROGRAM OF THIS SESSION over the walks that the kit prints; contracts of functions that the print does not take are this session's own
import Derived.Test.YtenmcdnjbplnlaaProg
import Derived.Below
import Derived.Deep.Draws
import Derived.Deep.AppendLies
import Derived.Maps.AppendAt
import Derived.OwnWalk
import Derived.Laws.BytesArg
import Derived.Laws.MakeOwn
import Derived.Laws.OwnMore
import Derived.Deep.OwnRows
import Derived.Tactics
import Derived.Lib.ConvBytes
import Derived.Laws.Slices
import Derived.WalkKit
import Derived.KernelRfl
import Derived.RowKit3
import Derived.Deep.LoopGhost
import Derived.Deep.QuietTactic
import Derived.BigQuiet
import Derived.WideLaws
import Derived.Deep.DeepCutAuto
import Derived.Deep.CutBlock
import Derived.Deep.RegionHeld3
import Derived.Laws.Rows
import Derived.Lib.AppendStr
import Derived.ArgAppend
import Derived.Laws.IdiomCopy
import Derived.OrdersHeld
import Derived.Laws.BitsLemmas
import Derived.RowKit
import Derived.Test.YtenmcdnjbplnlaaG1
import Derived.Test.YtenmcdnjbplnlaaWWords
import Derived.Test.YtenmcdnjbplnlaaWLast
import Derived.Test.YtenmcdnjbplnlaaWTab
import Derived.Test.YtenmcdnjbplnlaaWFour
import Derived.Test.YtenmcdnjbplnlaaWQPut
import Derived.Test.YtenmcdnjbplnlaaWApart
import Derived.Test.YtenmcdnjbplnlaaWArr
import Derived.Test.YtenmcdnjbplnlaaWZeros
import Derived.Test.YtenmcdnjbplnlaaWFoot
import Derived.Test.YtenmcdnjbplnlaaWKept
import Derived.Test.YtenmcdnjbplnlaaWShare
import Derived.Test.YtenmcdnjbplnlaaWN
import Derived.Test.YtenmcdnjbplnlaaWFootNe
import Derived.Test.YtenmcdnjbplnlaaWAt
import Derived.Test.YtenmcdnjbplnlaaWEqStruct
import Derived.Test.YtenmcdnjbplnlaaWRepsOne
import Derived.Test.YtenmcdnjbplnlaaWInv
import Derived.Test.YtenmcdnjbplnlaaWInvWords
import Derived.Test.YtenmcdnjbplnlaaWGuard
import Derived.Test.YtenmcdnjbplnlaaWNEv
import Derived.Test.YtenmcdnjbplnlaaWMore
namespace Go.Proofs.Ytenmcdnjbplnlaa.RFnExactLeastGenerator
open Go.RowKit Go.Proofs.Ytenmcdnjbplnlaa.Given Go.Proofs.YtenmcdnjbplnlaaW.PrintWords Go.Proofs.YtenmcdnjbplnlaaW.PrintLast Go.Proofs.YtenmcdnjbplnlaaW.PrintMore
attribute [local go_sem] max2_int min2_int max_two min_two max_three min_three max_four min_four   -- for this text's walks alone
set_option linter.unusedVariables false
set_option linter.unusedSimpArgs false



def errW : Option Int → Value
  | none => .nilIface
  | some c => .iface 0 (.int .i64 c)
theorem errW_none : errW none = .nilIface := rfl
theorem errW_some (c : Int) : errW (some c) = .iface 0 (.int .i64 c) := rfl

theorem info2 : (Try.prog.info? 2).map (fun i => (i.zero, i.size, i.bytes)) = some (some (.int .i64 0), 1, 8) := by kernel_rfl
-- the values' own types

end Go.Proofs.Ytenmcdnjbplnlaa.RFnExactLeastGenerator
