/- WIP -/
import Derived.Test.YtiigbilpoakgiaaPFnExactSamePolyx1
import Derived.Test.YtiigbilpoakgiaaN1
namespace Go.Proofs.Ytiigbilpoakgiaa.Pure
open Go.RowKit Go.Proofs.Ytiigbilpoakgiaa.PFnExactSamePoly Go.Proofs.YtiigbilpoakgiaaW.PrintWords Go.Proofs.YtiigbilpoakgiaaW.PrintLast Go.Proofs.YtiigbilpoakgiaaW.PrintMore Go.Proofs.Ytiigbilpoakgiaa.NimF Go.Proofs.Ytiigbilpoakgiaa.NimGo
theorem toPoly_ev (l : List Int) (h : l.length ≤ 1048576) : ∃ K, ∀ k, K ≤ k → laws_toPoly.f k l = some l :=
  to_ev (fun _ _ => rfl) (fun _ _ _ _ => rfl) l (by omega)
theorem eqPoly_ev (l : List Int) (h : l.length ≤ 1048576) : ∃ K, ∀ k, K ≤ k → laws_eqPoly.f k l l = some true :=
  eq_refl_ev (fun _ _ _ => rfl) (fun _ _ _ _ => rfl) l (by omega)

theorem FnExactSamePoly : laws_FnExactSamePoly.Pure := by
  intro a b _ _ _ _ _ _
  by_cases ha : (a.length : Int) > 1048576
  · exact ⟨0, by unfold laws_FnExactSamePoly.f; rw [if_pos ha]⟩
  by_cases hb : (b.length : Int) > 1048576
  · exact ⟨0, by unfold laws_FnExactSamePoly.f; rw [if_neg ha, if_pos hb]⟩
  have hla : a.length ≤ 1048576 := by omega
  have hlb : b.length ≤ 1048576 := by omega
  obtain ⟨K1, h1⟩ := toPoly_ev a hla
  obtain ⟨K2, h2⟩ := toPoly_ev b hlb
  obtain ⟨K3, h3⟩ := eqPoly_ev a hla
  obtain ⟨K4, h4⟩ := eqPoly_ev b hlb
  obtain ⟨K5, h5⟩ := eq_ev (f := spec_l05Same.f) (fun _ _ _ => rfl) (fun _ _ _ _ => rfl) a b (by omega)
  obtain ⟨K6, h6⟩ := eqn_ev (f := impl_Nimber.f) (fun _ _ _ => rfl) (fun _ _ _ _ _ => rfl) a b (by omega)
  obtain ⟨K, hK⟩ : ∃ K, K = K1 + K2 + K3 + K4 + K5 + K6 := ⟨_, rfl⟩
  refine ⟨K, ?_⟩
  unfold laws_FnExactSamePoly.f spec_SamePoly.f impl_SamePoly.f
  rw [if_neg ha, if_neg hb]
  simp only [Option.bind_some, h1 K (by omega), h2 K (by omega), h3 K (by omega), h4 K (by omega), h5 K (by omega), h6 K (by omega), bne_self_eq_false, if_true]
  rfl

end Go.Proofs.Ytiigbilpoakgiaa.Pure
