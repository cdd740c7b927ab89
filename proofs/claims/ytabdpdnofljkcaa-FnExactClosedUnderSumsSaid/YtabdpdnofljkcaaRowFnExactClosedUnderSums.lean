/- The row of a law: what comes in is opened, the law is walked, what came in is shut as it was. -/
import Derived.Test.YtabdpdnofljkcaaRows
import Derived.Test.YtabdpdnofljkcaaL0
import Derived.Test.YtabdpdnofljkcaaC4
import Derived.Test.YtabdpdnofljkcaaPlainFnExactClosedUnderSums
import Derived.WalkKit
import Derived.ProofKit
import Derived.OpenShut
import Derived.ShutString
import Derived.ChangeOld
import Derived.Below
import Derived.SizedLaws
import Derived.Deep.Matrix
import Derived.Test.YtabdpdnofljkcaaWSized
namespace Go.Proofs.Ytabdpdnofljkcaa.fnExactClosedUnderSums
open Go.ChangeShapes Go.WideShapes Go.ChangeAt Go.RowKit Go.Proofs.YtabdpdnofljkcaaW.PrintWords Go.Proofs.Ytabdpdnofljkcaa.Given
open Go.ChangeMaps (open_string shut_string)
set_option linter.unusedVariables false
theorem own : ownKnob Try.prog.godebug = none := by kernel_rfl
theorem laidOut : laidOutB Try.prog = true := by kernel_rfl
theorem walk (a0 : Int) (a1 : Option Addr) (len1 cap1 : Nat) (l1 : List (List Int)) (w : World) (w0 : (Lit.int .i64 a0).wf = true) (w1 : IsRows .u16 w a1 len1 cap1 l1) :
    Calls Try.prog 7 #[.int .i64 a0, .slice a1 len1 cap1] w fun e w' => e = .returned (.bool true) ∧ Below w.heap.size w w' := by
  obtain ⟨k, hk⟩ := Pure.FnExactClosedUnderSums a0 l1 w0 (by have := w1.1; rw [← w1.2.2.2.1] at this; exact this) w1.2.2.1
  have e1 := w1.2.2.2.1
  have c1 := w1.2.2.2.2
  have hc1 : len1 ≤ cap1 := w1.2.1
  clear w1
  subst e1
  exact RFnExactClosedUnderSums.laws_FnExactClosedUnderSums.calls k a0 a1 cap1 l1 true w (c1 _) hc1 hk
set_option maxRecDepth 100000 in
set_option maxHeartbeats 8000000 in
theorem lifted (os : Os) (started : os.Started) (H : Type) (enc : TypeId × Value → H) :
    ReturnsInHanded {} Try.checked os 7 .any (Rows.fnExactClosedUnderSumsSpec.pre6 enc Try.prog Try.f7 Rows.fnExactClosedUnderSumsRow.domain false) (Rows.fnExactClosedUnderSumsSpec.post enc Try.prog Try.f7 false true false false) := by
  refine returnsInHanded_of_change_sized (C := Try.checked) own started (by kernel_rfl) Try.func7
    (ChangeSpec.witness6 (enc := enc) (C := Try.checked) false ⟨#[], #[.int .i64 0, .slice none 0 0], []⟩ 8 (by kernel_rfl) (by kernel_rfl) (by kernel_rfl) (by kernel_rfl)) ?_
  intro W base args ds gs before hval0 hW hcnd hsz0 _
  have hval : ∀ (j : Nat) t v, Try.f7.params[j]? = some t → args[j]? = some v → Value.okWide Try.prog W .any base t v := hval0
  have hW' := hW
  obtain ⟨p, q, hA0, hV, rfl, hfz, hnd⟩ := hW
  have hA : DataW.TrodAll enc Try.prog W 0 (fun _ => true) true Try.f7.params.toList args.toList ds p := hA0
  rw [Try.params7] at hA hval
  obtain ⟨v0, vs0, d0, ds0, p0, q0, hargs, rfl, rfl, h0, r0⟩ := trodAll_cons hA
  obtain ⟨v1, vs1, d1, ds1, p1, q1, rfl, rfl, rfl, h1, r1⟩ := trodAll_cons r0
  obtain ⟨rfl, rfl, rfl⟩ := trodAll_nil r1
  obtain rfl : args = #[v0, v1] := by cases args; simp_all
  obtain ⟨rfl, rfl⟩ := trodVars_none hV
  obtain ⟨a0, rfl, rfl, rfl, w0⟩ := open_int Try.underlying2 (hval 0 2 v0 rfl rfl) h0
  obtain ⟨a1, len1, cap1, rfl⟩ := okWide_slice Try.underlying22 (hval 1 22 v1 rfl rfl)
  have k1 := h1
  have lt1 : ∀ x ∈ p1, x.block < W.heap.size := by obtain ⟨m, hm⟩ := k1; exact DataW.trod_lt m _ _ _ hm
  obtain ⟨l1, w1⟩ : ∃ l, IsRows .u16 W a1 len1 cap1 l := by
    obtain ⟨fuel, hf⟩ := h1
    rcases Go.Deep.open_int_rows Try.underlying22 Try.underlying38 Try.underlying63 (by kernel_rfl) (by kernel_rfl) hf with ⟨hcs, _⟩ | ⟨x, ln, cp, A, L, C, Z, hcs, _, hl, hm, _, hr⟩
    · simp [Value.cells] at hcs
      obtain ⟨rfl, rfl, rfl⟩ := hcs
      exact ⟨[], isRows_nil _ _⟩
    · simp [Value.cells] at hcs
      obtain ⟨rfl, rfl, rfl⟩ := hcs
      exact ⟨_, isRows_of hl hm hr⟩
  clear hA0 hval0 hsz0
  refine (walk a0 a1 len1 cap1 l1 W w0 w1).mono fun e W' ⟨he, bel⟩ => ?_
  subst he
  exact ⟨_, rfl, _, _, _, [], _, [], hW', trodAll_mk1 (shut_bool Try.underlying4 _), (trodAll_cons_mk (shut_int Try.underlying2 w0) (trodAll_cons_mk (Below.trod laidOut (by kernel_rfl) (of_decide_eq_true (by kernel_rfl)) k1 bel lt1) trodAll_mk0)), rfl, bel.frame _, fun h => by cases h⟩
theorem over : Rows.fnExactClosedUnderSumsRow.holds Try.pinned (OpenSpec.ofChange Rows.fnExactClosedUnderSumsSpec) :=
  OpenClaim.holds_of_wide 7 Try.f7 rfl rfl rfl rfl rfl rfl rfl ⟨rfl, rfl, rfl, rfl, rfl⟩ rfl rfl rfl rfl rfl (by kernel_rfl) Try.func7 (by kernel_rfl)
    (of_decide_eq_true (by kernel_rfl)) (by unfold Func.isWrapper; first | (rw [if_pos (by decide +kernel)]; kernel_rfl) | (rw [if_neg (by decide +kernel)]; exact ⟨rfl, rfl⟩))
    (fun os started H enc _ => lifted os started H enc)
theorem proved : Rows.FnExactClosedUnderSumsSaid := over
end Go.Proofs.Ytabdpdnofljkcaa.fnExactClosedUnderSums
namespace Go.Proofs.Ytabdpdnofljkcaa
/-- The row, under a short name, for the claim. -/
theorem fnExactClosedUnderSums_holds : Rows.FnExactClosedUnderSumsSaid := fnExactClosedUnderSums.proved
end Go.Proofs.Ytabdpdnofljkcaa
