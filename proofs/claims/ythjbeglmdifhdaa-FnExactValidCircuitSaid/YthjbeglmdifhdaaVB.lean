/- Walks of functions that the print does not take. -/
import Derived.Test.YthjbeglmdifhdaaProg
import Derived.Below
import Derived.Deep.Draws
import Derived.Deep.AppendLies
import Derived.Maps.AppendAt
import Derived.OwnWalk
import Derived.Laws.BytesArg
import Derived.Laws.MakeOwn
import Derived.Laws.OwnMore
import Derived.Deep.OwnRows
import Derived.Tactics
import Derived.Lib.ConvBytes
import Derived.Laws.Slices
import Derived.WalkKit
import Derived.KernelRfl
import Derived.RowKit3
import Derived.Deep.LoopGhost
import Derived.Deep.QuietTactic
import Derived.BigQuiet
import Derived.WideLaws
import Derived.Deep.DeepCutAuto
import Derived.Deep.CutBlock
import Derived.Deep.RegionHeld3
import Derived.Laws.Rows
import Derived.Lib.AppendStr
import Derived.ArgAppend
import Derived.Laws.IdiomCopy
import Derived.OrdersHeld
import Derived.Laws.BitsLemmas
import Derived.RowKit
import Derived.Lib.Hide
import Derived.WalkSpells
import Derived.Test.YthjbeglmdifhdaaWWords
import Derived.Test.YthjbeglmdifhdaaWLast
import Derived.Test.YthjbeglmdifhdaaWTab
import Derived.Test.YthjbeglmdifhdaaWFour
import Derived.Test.YthjbeglmdifhdaaWQPut
import Derived.Test.YthjbeglmdifhdaaWApart
import Derived.Test.YthjbeglmdifhdaaWArr
import Derived.Test.YthjbeglmdifhdaaWZeros
import Derived.Test.YthjbeglmdifhdaaWFoot
import Derived.Test.YthjbeglmdifhdaaWKept
import Derived.Test.YthjbeglmdifhdaaWShare
import Derived.Test.YthjbeglmdifhdaaWN
import Derived.Test.YthjbeglmdifhdaaWFootNe
import Derived.Test.YthjbeglmdifhdaaWAt
import Derived.Test.YthjbeglmdifhdaaWEqStruct
import Derived.Test.YthjbeglmdifhdaaWRepsOne
import Derived.Test.YthjbeglmdifhdaaWInv
import Derived.Test.YthjbeglmdifhdaaWInvWords
import Derived.Test.YthjbeglmdifhdaaWGuard
import Derived.Test.YthjbeglmdifhdaaWNEv
import Derived.Test.YthjbeglmdifhdaaWMore
import Derived.Test.YthjbeglmdifhdaaN1
import Derived.Test.YthjbeglmdifhdaaVD
import Derived.Test.YthjbeglmdifhdaaRFnExactValidCircuitx1
namespace Go.Proofs.Ythjbeglmdifhdaa.Given
open Go.RowKit Go.Proofs.YthjbeglmdifhdaaW.PrintWords Go.Proofs.YthjbeglmdifhdaaW.PrintLast Go.Proofs.YthjbeglmdifhdaaW.PrintMore Go.Proofs.Ythjbeglmdifhdaa.NimF Go.Proofs.Ythjbeglmdifhdaa.NimGo
set_option linter.unusedVariables false
set_option linter.unusedSimpArgs false
/-- a gate of one text as a gate of the other -/
def cvG (x : RFnExactValidCircuit.S96) : PFnExactValidCircuit.S96 := ⟨x.f0, x.f1, x.f2⟩
theorem conv_C {w : World} {A : Option Addr} {n : Nat} {l : List RFnExactValidCircuit.S96} (h : Kd.C RFnExactValidCircuit.k96 w A n l) : Kd.C PFnExactValidCircuit.k96 w A n (l.map cvG) := by
  refine ⟨by rw [List.length_map]; exact h.1, h.2.1, fun h0 => ?_⟩
  obtain ⟨ad, e, hc⟩ := h.2.2 h0
  refine ⟨ad, e, fun j p hj => ?_⟩
  rw [List.getElem?_map] at hj
  cases hq : l[j]? with
  | none => rw [hq] at hj; cases hj
  | some q =>
    rw [hq] at hj
    obtain rfl := Option.some.inj hj
    exact hc j q hq
theorem conv_C' {w : World} {A : Option Addr} {l : List RFnExactValidCircuit.S96} (h : Kd.C RFnExactValidCircuit.k96 w A l.length l) : Kd.C PFnExactValidCircuit.k96 w A (l.map cvG).length (l.map cvG) := by
  rw [List.length_map]; exact conv_C h
def spec_ValidCircuit.f (a0 : Int) (l1 : List RFnExactValidCircuit.S96) (l2 : List Int) : Option Bool := some (cOk a0 (l1.map cvG) l2)
def impl_ValidCircuit.f (a0 : Int) (l1 : List RFnExactValidCircuit.S96) (l2 : List Int) : Option Bool := some (cOk a0 (l1.map cvG) l2)
theorem spec_ValidCircuit.calls (a0 : Int) (A1 : Option Addr) (c1 : Nat) (l1 : List RFnExactValidCircuit.S96) (A2 : Option Addr) (c2 : Nat) (l2 : List Int) (r : Bool) (w : World)
    (r1 : Kd.C RFnExactValidCircuit.k96 w A1 l1.length l1) (h1 : l1.length ≤ c1) (r2 : Kd.C (Kd.int .i16) w A2 l2.length l2) (h2 : l2.length ≤ c2) (h : spec_ValidCircuit.f a0 l1 l2 = some r) :
    Calls Try.prog 32 #[.agg #[.int .i8 a0, .slice A1 l1.length c1, .slice A2 l2.length c2]] w fun e w' => e = .returned (.bool r) ∧ Below w.heap.size w w' := by
  obtain rfl := Option.some.inj h
  have := specValid_calls a0 A1 A2 c1 c2 (l1.map cvG) l2 w (conv_C' r1) r2
  rw [List.length_map] at this
  exact this
theorem impl_ValidCircuit.calls (a0 : Int) (A1 : Option Addr) (c1 : Nat) (l1 : List RFnExactValidCircuit.S96) (A2 : Option Addr) (c2 : Nat) (l2 : List Int) (r : Bool) (w : World)
    (r1 : Kd.C RFnExactValidCircuit.k96 w A1 l1.length l1) (h1 : l1.length ≤ c1) (r2 : Kd.C (Kd.int .i16) w A2 l2.length l2) (h2 : l2.length ≤ c2) (h : impl_ValidCircuit.f a0 l1 l2 = some r) :
    Calls Try.prog 33 #[.agg #[.int .i8 a0, .slice A1 l1.length c1, .slice A2 l2.length c2]] w fun e w' => e = .returned (.bool r) ∧ Below w.heap.size w w' := by
  have := implValid_calls a0 A1 A2 c1 c2 (l1.map cvG) l2 w (by rw [List.length_map]; exact h1) h2 (conv_C' r1) r2 r (Option.some.inj h)
  rw [List.length_map] at this
  exact this

end Go.Proofs.Ythjbeglmdifhdaa.Given
