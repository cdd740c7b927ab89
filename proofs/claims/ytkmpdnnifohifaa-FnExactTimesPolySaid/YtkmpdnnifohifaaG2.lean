/- Walks of functions that the print does not take. -/
import Derived.Test.YtkmpdnnifohifaaProg
import Derived.Below
import Derived.Deep.Draws
import Derived.Deep.AppendLies
import Derived.Maps.AppendAt
import Derived.OwnWalk
import Derived.Laws.BytesArg
import Derived.Laws.MakeOwn
import Derived.Laws.OwnMore
import Derived.Deep.OwnRows
import Derived.Tactics
import Derived.Lib.ConvBytes
import Derived.Laws.Slices
import Derived.WalkKit
import Derived.KernelRfl
import Derived.RowKit3
import Derived.Deep.LoopGhost
import Derived.Deep.QuietTactic
import Derived.BigQuiet
import Derived.WideLaws
import Derived.Deep.DeepCutAuto
import Derived.Deep.CutBlock
import Derived.Deep.RegionHeld3
import Derived.Laws.Rows
import Derived.Lib.AppendStr
import Derived.ArgAppend
import Derived.Laws.IdiomCopy
import Derived.OrdersHeld
import Derived.Laws.BitsLemmas
import Derived.RowKit
import Derived.Lib.Hide
import Derived.WalkSpells
import Derived.Test.YtkmpdnnifohifaaWWords
import Derived.Test.YtkmpdnnifohifaaWLast
import Derived.Test.YtkmpdnnifohifaaWTab
import Derived.Test.YtkmpdnnifohifaaWFour
import Derived.Test.YtkmpdnnifohifaaWQPut
import Derived.Test.YtkmpdnnifohifaaWApart
import Derived.Test.YtkmpdnnifohifaaWArr
import Derived.Test.YtkmpdnnifohifaaWZeros
import Derived.Test.YtkmpdnnifohifaaWFoot
import Derived.Test.YtkmpdnnifohifaaWKept
import Derived.Test.YtkmpdnnifohifaaWShare
import Derived.Test.YtkmpdnnifohifaaWN
import Derived.Test.YtkmpdnnifohifaaWFootNe
import Derived.Test.YtkmpdnnifohifaaWAt
import Derived.Test.YtkmpdnnifohifaaWEqStruct
import Derived.Test.YtkmpdnnifohifaaWRepsOne
import Derived.Test.YtkmpdnnifohifaaWInv
import Derived.Test.YtkmpdnnifohifaaWInvWords
import Derived.Test.YtkmpdnnifohifaaWGuard
import Derived.Test.YtkmpdnnifohifaaWNEv
import Derived.Test.YtkmpdnnifohifaaWMore
import Derived.Test.YtkmpdnnifohifaaN1
import Derived.Test.YtkmpdnnifohifaaC1
import Derived.Test.YtkmpdnnifohifaaG1
namespace Go.Proofs.Ytkmpdnnifohifaa.Given
open Go.RowKit Go.Proofs.YtkmpdnnifohifaaW.PrintWords Go.Proofs.YtkmpdnnifohifaaW.PrintLast Go.Proofs.YtkmpdnnifohifaaW.PrintMore Go.Proofs.Ytkmpdnnifohifaa.NimF Go.Proofs.Ytkmpdnnifohifaa.NimGo
set_option linter.unusedVariables false
set_option linter.unusedSimpArgs false
/-- a list without the zeros at its end, as the program makes it -/
def impl_trim.f (l0 : List Int) : Option (List Int) := cloneL (trimL l0)
theorem impl_trim.calls (A0 : Option Addr) (c0 : Nat) (l0 : List Int) (r : List Int) (w : World) (hr0 : Kd.C (Kd.int .u16) w A0 l0.length l0) (hc0 : l0.length ≤ c0) (h : impl_trim.f l0 = some r) :
    Calls Try.prog 42 #[.slice A0 l0.length c0] w fun e w' => ∃ v0_ : Value, e = .returned (v0_) ∧ Kd.R (Kd.int .u16) 36 w' w.heap.size (fun _ => True) v0_ r ∧ Below w.heap.size w w' :=
  trim_calls A0 c0 l0 r w hr0 hc0 h

end Go.Proofs.Ytkmpdnnifohifaa.Given
