-- WRITTEN BY A PROGRAM OF THIS SESSION over the walks that the kit prints; contracts of functions that the print does not take are this session's own
import Derived.Test.YtabdpdnofljkcaaProg
import Derived.Below
import Derived.Deep.Draws
import Derived.Deep.AppendLies
import Derived.Maps.AppendAt
import Derived.OwnWalk
import Derived.Laws.BytesArg
import Derived.Laws.MakeOwn
import Derived.Laws.OwnMore
import Derived.Deep.OwnRows
import Derived.Tactics
import Derived.Lib.ConvBytes
import Derived.Laws.Slices
import Derived.WalkKit
import Derived.KernelRfl
import Derived.RowKit3
import Derived.Deep.LoopGhost
import Derived.Deep.QuietTactic
import Derived.BigQuiet
import Derived.WideLaws
import Derived.Deep.DeepCutAuto
import Derived.Deep.CutBlock
import Derived.Deep.RegionHeld3
import Derived.Laws.Rows
import Derived.Lib.AppendStr
import Derived.ArgAppend
import Derived.Laws.IdiomCopy
import Derived.OrdersHeld
import Derived.Laws.BitsLemmas
import Derived.RowKit
import Derived.Test.YtabdpdnofljkcaaWWords
import Derived.Test.YtabdpdnofljkcaaWLast
import Derived.Test.YtabdpdnofljkcaaWTab
import Derived.Test.YtabdpdnofljkcaaWFour
import Derived.Test.YtabdpdnofljkcaaWQPut
import Derived.Test.YtabdpdnofljkcaaWApart
import Derived.Test.YtabdpdnofljkcaaWArr
import Derived.Test.YtabdpdnofljkcaaWZeros
import Derived.Test.YtabdpdnofljkcaaWFoot
import Derived.Test.YtabdpdnofljkcaaWKept
import Derived.Test.YtabdpdnofljkcaaWShare
import Derived.Test.YtabdpdnofljkcaaWN
import Derived.Test.YtabdpdnofljkcaaWFootNe
import Derived.Test.YtabdpdnofljkcaaWAt
import Derived.Test.YtabdpdnofljkcaaWEqStruct
import Derived.Test.YtabdpdnofljkcaaWRepsOne
import Derived.Test.YtabdpdnofljkcaaWInv
import Derived.Test.YtabdpdnofljkcaaWInvWords
import Derived.Test.YtabdpdnofljkcaaWGuard
import Derived.Test.YtabdpdnofljkcaaWNEv
import Derived.Test.YtabdpdnofljkcaaWMore
namespace Go.Proofs.Ytabdpdnofljkcaa.RAPT
open Go.RowKit Go.Proofs.YtabdpdnofljkcaaW.PrintWords Go.Proofs.YtabdpdnofljkcaaW.PrintLast Go.Proofs.YtabdpdnofljkcaaW.PrintMore
attribute [local go_sem] max2_int min2_int max_two min_two max_three min_three max_four min_four   -- for this text's walks alone
set_option linter.unusedVariables false
set_option linter.unusedSimpArgs false



def errW : Option Int → Value
  | none => .nilIface
  | some c => .iface 0 (.int .i64 c)
theorem errW_none : errW none = .nilIface := rfl
theorem errW_some (c : Int) : errW (some c) = .iface 0 (.int .i64 c) := rfl

theorem info64 : (Try.prog.info? 64).map (fun i => (i.zero, i.size, i.bytes)) = some (some (.int .u16 0), 1, 2) := by kernel_rfl
-- the values' own types

end Go.Proofs.Ytabdpdnofljkcaa.RAPT
