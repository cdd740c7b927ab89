/- The law FnExactPlusCircuit returns true for all arguments, as a statement on numbers and lists alone. -/
import Derived.Test.YthjbeglmdifhdaaRFnExactPlusCircuitx3
import Derived.Test.YthjbeglmdifhdaaN1
import Derived.Test.YthjbeglmdifhdaaPE
namespace Go.Proofs.Ythjbeglmdifhdaa.Pure
open Go.RowKit Go.Proofs.Ythjbeglmdifhdaa.RFnExactPlusCircuit Go.Proofs.YthjbeglmdifhdaaW.PrintWords Go.Proofs.YthjbeglmdifhdaaW.PrintLast Go.Proofs.YthjbeglmdifhdaaW.PrintMore Go.Proofs.Ythjbeglmdifhdaa.NimF Go.Proofs.Ythjbeglmdifhdaa.NimGo Go.Proofs.Ythjbeglmdifhdaa.Given
theorem plus_at (a0 : Int) (h : a0 = 0 ∨ a0 = 1 ∨ a0 = 2 ∨ a0 = 3) : laws_FnExactPlusCircuit.f 60 a0 = some true := by
  rcases h with rfl | rfl | rfl | rfl
  · decide +kernel
  · decide +kernel
  · decide +kernel
  · decide +kernel
theorem plus_out (a0 : Int) (h : ¬ (0 ≤ a0 ∧ a0 ≤ 3)) : laws_FnExactPlusCircuit.f 60 a0 = some true := by
  have h1 : spec_PlusCircuit.f a0 = some (0, [], [], 2) := by unfold spec_PlusCircuit.f plusF; rw [if_neg h]
  have h2 : impl_PlusCircuit.f a0 = some (0, [], [], 2) := by unfold impl_PlusCircuit.f plusF; rw [if_neg h]
  have e1 : laws_eqCircuit.f 60 0 [] [] 0 [] [] = some true := by decide +kernel
  have e2 : laws_eqCircuit.f 59 0 [] [] 0 [] [] = some true := by decide +kernel
  have e3 : laws_markCircuit.f 59 0 [] [] 1 = some (1, [], []) := by kernel_rfl
  have e4 : laws_heldCircuit.f 59 0 [] [] 1 = some 1 := by decide +kernel
  have e5 : laws_heldCircuit.f 58 0 [] [] 1 = some 1 := by decide +kernel
  simp [laws_FnExactPlusCircuit.f, laws_FnExactPlusCircuit.j0, laws_FnExactPlusCircuit.j1, h1, h2, e1, e2, e3, e4, e5]
theorem FnExactPlusCircuit : laws_FnExactPlusCircuit.Pure := by
  intro a0 _
  by_cases h : 0 ≤ a0 ∧ a0 ≤ 3
  · exact ⟨60, plus_at a0 (by omega)⟩
  · exact ⟨60, plus_out a0 h⟩

end Go.Proofs.Ythjbeglmdifhdaa.Pure
