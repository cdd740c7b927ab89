/- The row of a law: what comes in is opened, the law is walked, what came in is shut as it was. -/
import Derived.Test.YthjbeglmdifhdaaRows
import Derived.Test.YthjbeglmdifhdaaL0
import Derived.Test.YthjbeglmdifhdaaCV
import Derived.Test.YthjbeglmdifhdaaPlainFnExactValidCircuit
import Derived.WalkKit
import Derived.ProofKit
import Derived.OpenShut
import Derived.ShutString
import Derived.ChangeOld
import Derived.Below
import Derived.SizedLaws
import Derived.Deep.Matrix
import Derived.Test.YthjbeglmdifhdaaWSized
namespace Go.Proofs.Ythjbeglmdifhdaa.fnExactValidCircuit
open Go.ChangeShapes Go.WideShapes Go.ChangeAt Go.RowKit Go.Proofs.YthjbeglmdifhdaaW.PrintWords Go.Proofs.Ythjbeglmdifhdaa.Given Go.Proofs.Ythjbeglmdifhdaa.RFnExactValidCircuit
open Go.ChangeMaps (open_string shut_string)
set_option linter.unusedVariables false
theorem own : ownKnob Try.prog.godebug = none := by kernel_rfl
theorem laidOut : laidOutB Try.prog = true := by kernel_rfl
theorem walk (a0 : Int) (A0 : Option Addr) (c0 : Nat) (l0 : List S118) (B0 : Option Addr) (d0 : Nat) (m0 : List Int) (w : World) (w0 : (l0.length ≤ maxLen ∧ l0.length ≤ c0 ∧ Kd.C k118 w A0 l0.length l0) ∧ (m0.length ≤ maxLen ∧ m0.length ≤ d0 ∧ Kd.C (Kd.int .i16) w B0 m0.length m0)) :
    Calls Try.prog 9 #[.agg #[.int .i8 a0, .slice A0 l0.length c0, .slice B0 m0.length d0]] w fun e w' => e = .returned (.bool true) ∧ Below w.heap.size w w' := by
  obtain ⟨k, hk⟩ := Pure.FnExactValidCircuit a0 l0 m0 w0.1.1 w0.2.1
  exact RFnExactValidCircuit.laws_FnExactValidCircuit.calls k a0 A0 c0 l0 B0 d0 m0 true w w0.1.2.2 w0.1.2.1 w0.2.2.2 w0.2.2.1 rfl hk
set_option maxRecDepth 100000 in
theorem lifted (os : Os) (started : os.Started) (H : Type) (enc : TypeId × Value → H) :
    ReturnsInHanded {} Try.checked os 9 .any (Rows.fnExactValidCircuitSpec.pre6 enc Try.prog Try.f9 Rows.fnExactValidCircuitRow.domain false) (Rows.fnExactValidCircuitSpec.post enc Try.prog Try.f9 false true false false) := by
  refine returnsInHanded_of_change_sized (C := Try.checked) own started (by kernel_rfl) Try.func9
    (ChangeSpec.witness6 (enc := enc) (C := Try.checked) false ⟨#[], #[.agg #[.int .i8 0, .slice none 0 0, .slice none 0 0]], []⟩ 8 (by kernel_rfl) (by kernel_rfl) (by kernel_rfl) (by kernel_rfl)) ?_
  intro W base args ds gs before hval0 hW hcnd hsz0 _
  have hval : ∀ (j : Nat) t v, Try.f9.params[j]? = some t → args[j]? = some v → Value.okWide Try.prog W .any base t v := hval0
  have hW' := hW
  obtain ⟨p, q, hA0, hV, rfl, hfz, hnd⟩ := hW
  have hA : DataW.TrodAll enc Try.prog W 0 (fun _ => true) true Try.f9.params.toList args.toList ds p := hA0
  rw [Try.params9] at hA hval
  obtain ⟨v0, vs0, d0, ds0, p0, q0, hargs, rfl, rfl, h0, r0⟩ := trodAll_cons hA
  obtain ⟨rfl, rfl, rfl⟩ := trodAll_nil r0
  obtain rfl : args = #[v0] := by cases args; simp_all
  obtain ⟨rfl, rfl⟩ := trodVars_none hV
  have k0 := h0
  have lt0 : ∀ x ∈ p0, x.block < W.heap.size := by obtain ⟨m, hm⟩ := k0; exact DataW.trod_lt m _ _ _ hm
  obtain ⟨a0, A0, c0, l0, B0, d0, m0, rfl, w0⟩ := open_circ (hval 0 58 v0 rfl rfl) h0
  clear hA0 hval0 hsz0
  refine (walk a0 A0 c0 l0 B0 d0 m0 W w0).mono fun e W' ⟨he, bel⟩ => ?_
  subst he
  exact ⟨_, rfl, _, _, _, [], _, [], hW', trodAll_mk1 (shut_bool Try.underlying4 _), (trodAll_cons_mk (Below.trod laidOut (by kernel_rfl) (of_decide_eq_true (by kernel_rfl)) k0 bel lt0) trodAll_mk0), rfl, bel.frame _, fun h => by cases h⟩
theorem over : Rows.fnExactValidCircuitRow.holds Try.pinned (OpenSpec.ofChange Rows.fnExactValidCircuitSpec) :=
  OpenClaim.holds_of_wide 9 Try.f9 rfl rfl rfl rfl rfl rfl rfl ⟨rfl, rfl, rfl, rfl, rfl⟩ rfl rfl rfl rfl rfl (by kernel_rfl) Try.func9 (by kernel_rfl)
    (of_decide_eq_true (by kernel_rfl)) (by unfold Func.isWrapper; first | (rw [if_pos (by decide +kernel)]; kernel_rfl) | (rw [if_neg (by decide +kernel)]; exact ⟨rfl, rfl⟩))
    (fun os started H enc _ => lifted os started H enc)
theorem proved : Rows.FnExactValidCircuitSaid := over
end Go.Proofs.Ythjbeglmdifhdaa.fnExactValidCircuit
namespace Go.Proofs.Ythjbeglmdifhdaa
/-- The row, under a short name, for the claim. -/
theorem fnExactValidCircuit_holds : Rows.FnExactValidCircuitSaid := fnExactValidCircuit.proved
end Go.Proofs.Ythjbeglmdifhdaa
