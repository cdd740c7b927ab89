/- WIP -/
import Derived.Test.YtiigbilpoakgiaaPFnExactDegreeOfx1
import Derived.Test.YtiigbilpoakgiaaN1
namespace Go.Proofs.Ytiigbilpoakgiaa.Pure
open Go.RowKit Go.Proofs.Ytiigbilpoakgiaa.PFnExactDegreeOf Go.Proofs.YtiigbilpoakgiaaW.PrintWords Go.Proofs.YtiigbilpoakgiaaW.PrintLast Go.Proofs.YtiigbilpoakgiaaW.PrintMore Go.Proofs.Ytiigbilpoakgiaa.NimF Go.Proofs.Ytiigbilpoakgiaa.NimGo
theorem toPoly_ev (l : List Int) (h : l.length ≤ 1048576) : ∃ K, ∀ k, K ≤ k → laws_toPoly.f k l = some l :=
  to_ev (fun _ _ => rfl) (fun _ _ _ _ => rfl) l (by omega)
theorem eqPoly_ev (l : List Int) (h : l.length ≤ 1048576) : ∃ K, ∀ k, K ≤ k → laws_eqPoly.f k l l = some true :=
  eq_refl_ev (fun _ _ _ => rfl) (fun _ _ _ _ => rfl) l (by omega)

def vpoly (l : List Int) : Bool := l.length == 0 || (decide (l.length ≤ 21) && l.getD (l.length - 1) 0 != 0)
theorem last_rd (l : List Int) (h : l.length ≠ 0) (h2 : l.length ≤ 1048576) : wrap64 ((l.length : Int) - 1) = ((l.length - 1 : Nat) : Int) := by
  unfold wrap64; omega
theorem spec_ok (l : List Int) (h : l.length ≤ 1048576) : spec_l05Ok.f l = some (vpoly l) := by
  unfold spec_l05Ok.f vpoly
  by_cases h0 : l.length = 0
  · rw [if_pos (by omega), h0]; rfl
  · rw [if_neg (by omega)]
    have hb : (l.length == 0) = false := by simpa using h0
    by_cases h21 : l.length ≤ 21
    · rw [if_pos (by omega), last_rd l h0 h, if_pos (by omega), if_pos (by omega), rd_nat, hb, decide_eq_true h21]; rfl
    · rw [if_neg (by omega), hb, decide_eq_false h21]; rfl
theorem impl_ok (l : List Int) (h : l.length ≤ 1048576) : impl_ValidPoly.f l = some (vpoly l) := by
  unfold impl_ValidPoly.f vpoly
  by_cases h21 : l.length ≤ 21
  · rw [if_pos (by omega)]
    by_cases h0 : l.length = 0
    · rw [if_pos (by omega), h0]; rfl
    · have hb : (l.length == 0) = false := by simpa using h0
      rw [if_neg (by omega), last_rd l h0 h, if_pos (by omega), if_pos (by omega), rd_nat, hb, decide_eq_true h21]; rfl
  · have hb : (l.length == 0) = false := by simp; intro e; rw [e] at h21; exact h21 (by decide)
    rw [if_neg (by omega), hb, decide_eq_false h21]; rfl

theorem FnExactDegreeOf : laws_FnExactDegreeOf.Pure := by
  intro l _ _ hw
  by_cases hb : (l.length : Int) > 1048576
  · exact ⟨0, by unfold laws_FnExactDegreeOf.f; rw [if_pos hb]⟩
  · have hl : l.length ≤ 1048576 := by omega
    obtain ⟨K1, h1⟩ := toPoly_ev l hl
    obtain ⟨K2, h2⟩ := eqPoly_ev l hl
    have hs : spec_DegreeOf.f l = impl_DegreeOf.f l := by
      unfold spec_DegreeOf.f impl_DegreeOf.f; rw [spec_ok l hl, impl_ok l hl]
    obtain ⟨r, hr⟩ : ∃ r, impl_DegreeOf.f l = some r := by
      unfold impl_DegreeOf.f; rw [impl_ok l hl]; simp only [Option.bind_some]; split <;> exact ⟨_, rfl⟩
    refine ⟨K1 + K2 + 1, ?_⟩
    unfold laws_FnExactDegreeOf.f
    rw [if_neg hb, h1 _ (by omega)]
    simp only [Option.bind_some, hs, hr, if_true, bne_self_eq_false, laws_FnExactDegreeOf.j0, h1 (K1 + K2) (by omega), h2 (K1 + K2) (by omega)]
    rfl

end Go.Proofs.Ytiigbilpoakgiaa.Pure
