/- The law FnExactTraceOf returns true for all arguments, as a statement on numbers and lists alone. -/
import Derived.Test.YtenmcdnjbplnlaaRFnExactTraceOfx1
import Derived.Test.YtenmcdnjbplnlaaN1
namespace Go.Proofs.Ytenmcdnjbplnlaa.Pure
open Go.RowKit Go.Proofs.Ytenmcdnjbplnlaa.RFnExactTraceOf Go.Proofs.YtenmcdnjbplnlaaW.PrintWords Go.Proofs.YtenmcdnjbplnlaaW.PrintLast Go.Proofs.YtenmcdnjbplnlaaW.PrintMore Go.Proofs.Ytenmcdnjbplnlaa.NimF Go.Proofs.Ytenmcdnjbplnlaa.NimGo Go.Proofs.Ytenmcdnjbplnlaa.Given
theorem st {a b : Nat} (ha : a < 65536) (hb : b < 65536) : spec_l01Times.f (a : Int) (b : Int) = some ((nm 4 a b : Nat) : Int) := nimTimes_nat ha hb

theorem it {a b : Nat} (ha : a < 65536) (hb : b < 65536) : impl_times.f (a : Int) (b : Int) = some ((nm 4 a b : Nat) : Int) := nimTimes_nat ha hb

theorem trace_same (k : Nat) : ∀ a s i : Int, spec_l01Trace.l0 k a s i = impl_TraceOf.l0 k a s i := by
  induction k with
  | zero => intro a s i; rfl
  | succ k ih =>
    intro a s i
    simp only [spec_l01Trace.l0, impl_TraceOf.l0, ih]
    rfl
theorem trace_ends : ∀ (d i a s : Nat), i + d = 16 → a < 65536 → s < 65536 → ∃ r, Ev (fun k => impl_TraceOf.l0 k (a : Int) (s : Int) (i : Int)) r := by
  intro d
  induction d with
  | zero =>
    intro i a s hi ha hs
    exact ⟨(s : Int), Ev.step (f := fun _ => some (s : Int)) (fun k => by simp only [impl_TraceOf.l0]; rw [if_neg (by omega)]) (Ev.now _)⟩
  | succ d ih =>
    intro i a s hi ha hs
    obtain ⟨r, hr⟩ := ih (i + 1) (nm 4 a a) (s ^^^ a) (by omega) (nm4_lt a a) (Nat.xor_lt_two_pow (n := 16) hs ha)
    refine ⟨r, Ev.step (f := fun k => impl_TraceOf.l0 k ((nm 4 a a : Nat) : Int) ((s ^^^ a : Nat) : Int) ((i + 1 : Nat) : Int)) (fun k => ?_) hr⟩
    simp only [impl_TraceOf.l0]
    rw [if_pos (by omega), it ha ha, xor16 hs ha, w64s (by omega)]
    rfl
theorem FnExactTraceOf : laws_FnExactTraceOf.Pure := by
  intro a0 h0
  obtain ⟨a, rfl, ha⟩ := wf_u16 h0
  obtain ⟨r, K, hr⟩ := trace_ends 16 0 a 0 (by omega) ha (by omega)
  refine ⟨K, ?_⟩
  have h : impl_TraceOf.l0 K (a : Int) 0 0 = some r := hr K (Nat.le_refl _)
  unfold laws_FnExactTraceOf.f spec_TraceOf.f spec_l01Trace.f impl_TraceOf.f
  rw [trace_same, h]
  simp only [Option.bind_some, if_true]

end Go.Proofs.Ytenmcdnjbplnlaa.Pure
