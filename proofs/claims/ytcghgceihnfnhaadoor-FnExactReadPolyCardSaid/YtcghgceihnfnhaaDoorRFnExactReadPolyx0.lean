-- WRITTEN BY A PROGRAM OF THIS SESSION over the walks that the kit prints; contracts of functions that the print does not take are this session's own
import Derived.Test.YtcghgceihnfnhaaDoorProg
import Derived.Below
import Derived.Deep.Draws
import Derived.Deep.AppendLies
import Derived.Maps.AppendAt
import Derived.OwnWalk
import Derived.Laws.BytesArg
import Derived.Laws.MakeOwn
import Derived.Laws.OwnMore
import Derived.Deep.OwnRows
import Derived.Tactics
import Derived.Lib.ConvBytes
import Derived.Laws.Slices
import Derived.WalkKit
import Derived.KernelRfl
import Derived.RowKit3
import Derived.Deep.LoopGhost
import Derived.Deep.QuietTactic
import Derived.BigQuiet
import Derived.WideLaws
import Derived.Deep.DeepCutAuto
import Derived.Deep.CutBlock
import Derived.Deep.RegionHeld3
import Derived.Laws.Rows
import Derived.Lib.AppendStr
import Derived.ArgAppend
import Derived.Laws.IdiomCopy
import Derived.OrdersHeld
import Derived.Laws.BitsLemmas
import Derived.RowKit
import Derived.Test.YtcghgceihnfnhaaDoorGR
import Derived.Test.YtcghgceihnfnhaaDoorWWords
import Derived.Test.YtcghgceihnfnhaaDoorWLast
import Derived.Test.YtcghgceihnfnhaaDoorWTab
import Derived.Test.YtcghgceihnfnhaaDoorWFour
import Derived.Test.YtcghgceihnfnhaaDoorWQPut
import Derived.Test.YtcghgceihnfnhaaDoorWApart
import Derived.Test.YtcghgceihnfnhaaDoorWArr
import Derived.Test.YtcghgceihnfnhaaDoorWZeros
import Derived.Test.YtcghgceihnfnhaaDoorWFoot
import Derived.Test.YtcghgceihnfnhaaDoorWKept
import Derived.Test.YtcghgceihnfnhaaDoorWShare
import Derived.Test.YtcghgceihnfnhaaDoorWN
import Derived.Test.YtcghgceihnfnhaaDoorWFootNe
import Derived.Test.YtcghgceihnfnhaaDoorWAt
import Derived.Test.YtcghgceihnfnhaaDoorWEqStruct
import Derived.Test.YtcghgceihnfnhaaDoorWRepsOne
import Derived.Test.YtcghgceihnfnhaaDoorWInv
import Derived.Test.YtcghgceihnfnhaaDoorWInvWords
import Derived.Test.YtcghgceihnfnhaaDoorWGuard
import Derived.Test.YtcghgceihnfnhaaDoorWNEv
import Derived.Test.YtcghgceihnfnhaaDoorWMore
namespace Go.Proofs.YtcghgceihnfnhaaDoor.RFnExactReadPoly
open Go.RowKit Go.Proofs.YtcghgceihnfnhaaDoor.Given Go.Proofs.YtcghgceihnfnhaaDoorW.PrintWords Go.Proofs.YtcghgceihnfnhaaDoorW.PrintLast Go.Proofs.YtcghgceihnfnhaaDoorW.PrintMore
attribute [local go_sem] max2_int min2_int max_two min_two max_three min_three max_four min_four   -- for this text's walks alone
set_option linter.unusedVariables false
set_option linter.unusedSimpArgs false



def errW : Option Int → Value
  | none => .nilIface
  | some c => .iface 0 (.int .i64 c)
theorem errW_none : errW none = .nilIface := rfl
theorem errW_some (c : Int) : errW (some c) = .iface 0 (.int .i64 c) := rfl

theorem info9 : (Tryd.prog.info? 9).map (fun i => (i.zero, i.size, i.bytes)) = some (some (.string ⟨#[]⟩), 1, 16) := by kernel_rfl
theorem info43 : (Tryd.prog.info? 43).map (fun i => (i.zero, i.size, i.bytes)) = some (some (.int .u16 0), 1, 2) := by kernel_rfl
-- the values' own types

end Go.Proofs.YtcghgceihnfnhaaDoor.RFnExactReadPoly
