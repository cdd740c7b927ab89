-- WRITTEN BY A PROGRAM OF THIS SESSION over the walks that the kit prints; contracts of functions that the print does not take are this session's own
import Derived.Test.YtkgnjfoclhkgkaaDoorProg
import Derived.Below
import Derived.Deep.Draws
import Derived.Deep.AppendLies
import Derived.Maps.AppendAt
import Derived.OwnWalk
import Derived.Laws.BytesArg
import Derived.Laws.MakeOwn
import Derived.Laws.OwnMore
import Derived.Deep.OwnRows
import Derived.Tactics
import Derived.Lib.ConvBytes
import Derived.Laws.Slices
import Derived.WalkKit
import Derived.KernelRfl
import Derived.RowKit3
import Derived.Deep.LoopGhost
import Derived.Deep.QuietTactic
import Derived.BigQuiet
import Derived.WideLaws
import Derived.Deep.DeepCutAuto
import Derived.Deep.CutBlock
import Derived.Deep.RegionHeld3
import Derived.Laws.Rows
import Derived.Lib.AppendStr
import Derived.ArgAppend
import Derived.Laws.IdiomCopy
import Derived.OrdersHeld
import Derived.Laws.BitsLemmas
import Derived.RowKit
import Derived.Test.YtkgnjfoclhkgkaaDoorWWords
import Derived.Test.YtkgnjfoclhkgkaaDoorWLast
import Derived.Test.YtkgnjfoclhkgkaaDoorWTab
import Derived.Test.YtkgnjfoclhkgkaaDoorWQPut
import Derived.Test.YtkgnjfoclhkgkaaDoorWApart
import Derived.Test.YtkgnjfoclhkgkaaDoorWArr
import Derived.Test.YtkgnjfoclhkgkaaDoorWZeros
import Derived.Test.YtkgnjfoclhkgkaaDoorWFoot
import Derived.Test.YtkgnjfoclhkgkaaDoorWKept
import Derived.Test.YtkgnjfoclhkgkaaDoorWShare
import Derived.Test.YtkgnjfoclhkgkaaDoorWN
import Derived.Test.YtkgnjfoclhkgkaaDoorWNEv
import Derived.Test.YtkgnjfoclhkgkaaDoorWMore
namespace Go.Proofs.YtkgnjfoclhkgkaaDoor.RSORT
open Go.RowKit Go.Proofs.YtkgnjfoclhkgkaaDoorW.PrintWords Go.Proofs.YtkgnjfoclhkgkaaDoorW.PrintLast Go.Proofs.YtkgnjfoclhkgkaaDoorW.PrintMore
attribute [local go_sem] max2_int min2_int max_two min_two max_three min_three max_four min_four   -- for this text's walks alone
set_option linter.unusedVariables false
set_option linter.unusedSimpArgs false
def errW : Option Int → Value
  | none => .nilIface
  | some c => .iface 0 (.int .i64 c)
theorem errW_none : errW none = .nilIface := rfl
theorem errW_some (c : Int) : errW (some c) = .iface 0 (.int .i64 c) := rfl
def flL : Nat → Nat → List Bool
  | 0, _ => []
  | n + 1, m => (m % 2 == 1) :: flL n (m / 2)
def fl (n m : Nat) : Array Bool := ⟨flL n m⟩
theorem pt_ : (∀ (a : Act) (d : Tmp) (v : Value), a.put (some d) v = { a with tmps := a.tmps.setIfInBounds d v }) ∧ (∀ (a : Act) (v : Value), a.put none v = a) ∧
    (∀ (l : List Value) (i : Nat) (a : Value), l.toArray.setIfInBounds i a = (l.set i a).toArray) ∧ (∀ (x : Value) (xs : List Value) (a : Value), (x :: xs).set 0 a = a :: xs) ∧
    (∀ (x : Value) (xs : List Value) (i : Nat) (a : Value), (x :: xs).set (i + 1) a = x :: xs.set i a) ∧ (∀ n, IntKind.i64.wrap n = Go.RowKit.wrap64 n) ∧ (∀ n, IntKind.i32.wrap n = Go.RowKit.wrap32 n) :=
  ⟨fun _ _ _ => rfl, fun _ _ => rfl, fun _ _ _ => List.setIfInBounds_toArray _ _ _, fun _ _ _ => rfl, fun _ _ _ _ => rfl, i64_w, i32_w⟩
end Go.Proofs.YtkgnjfoclhkgkaaDoor.RSORT
