/- The law FnExactSquareOf returns true for all arguments, as a statement on numbers and lists alone. -/
import Derived.Test.YtenmcdnjbplnlaaRFnExactSquareOfx1
import Derived.Test.YtenmcdnjbplnlaaN1
namespace Go.Proofs.Ytenmcdnjbplnlaa.Pure
open Go.RowKit Go.Proofs.Ytenmcdnjbplnlaa.RFnExactSquareOf Go.Proofs.YtenmcdnjbplnlaaW.PrintWords Go.Proofs.YtenmcdnjbplnlaaW.PrintLast Go.Proofs.YtenmcdnjbplnlaaW.PrintMore Go.Proofs.Ytenmcdnjbplnlaa.NimF Go.Proofs.Ytenmcdnjbplnlaa.NimGo Go.Proofs.Ytenmcdnjbplnlaa.Given
theorem st {a b : Nat} (ha : a < 65536) (hb : b < 65536) : spec_l01Times.f (a : Int) (b : Int) = some ((nm 4 a b : Nat) : Int) := nimTimes_nat ha hb

theorem it {a b : Nat} (ha : a < 65536) (hb : b < 65536) : impl_times.f (a : Int) (b : Int) = some ((nm 4 a b : Nat) : Int) := nimTimes_nat ha hb

theorem FnExactSquareOf : laws_FnExactSquareOf.Pure := by
  intro a0 h0
  obtain ⟨a, rfl, ha⟩ := wf_u16 h0
  unfold laws_FnExactSquareOf.f spec_SquareOf.f impl_SquareOf.f
  simp only [st ha ha, it ha ha, Option.bind_some, if_true]

end Go.Proofs.Ytenmcdnjbplnlaa.Pure
