/- The law FnExactConjugatesOf returns true for all arguments, as a statement on numbers and lists alone. -/
import Derived.Test.YtenmcdnjbplnlaaRFnExactConjugatesOfx1
import Derived.Test.YtenmcdnjbplnlaaN1
namespace Go.Proofs.Ytenmcdnjbplnlaa.Pure
open Go.RowKit Go.Proofs.Ytenmcdnjbplnlaa.RFnExactConjugatesOf Go.Proofs.YtenmcdnjbplnlaaW.PrintWords Go.Proofs.YtenmcdnjbplnlaaW.PrintLast Go.Proofs.YtenmcdnjbplnlaaW.PrintMore Go.Proofs.Ytenmcdnjbplnlaa.NimF Go.Proofs.Ytenmcdnjbplnlaa.NimGo Go.Proofs.Ytenmcdnjbplnlaa.Given
theorem st {a b : Nat} (ha : a < 65536) (hb : b < 65536) : spec_l01Times.f (a : Int) (b : Int) = some ((nm 4 a b : Nat) : Int) := nimTimes_nat ha hb

theorem it {a b : Nat} (ha : a < 65536) (hb : b < 65536) : impl_times.f (a : Int) (b : Int) = some ((nm 4 a b : Nat) : Int) := nimTimes_nat ha hb

theorem eqNimberS_ev (l : List Int) (h : l.length ≤ 1048576) : ∃ K, ∀ k, K ≤ k → laws_eqNimberS.f k l l = some true :=
  eq_refl_ev (fun _ _ _ => rfl) (fun _ _ _ _ => rfl) l (by omega)

theorem markNimberS_ev (l : List Int) (c : Int) (h0 : 0 ≤ c) (h : c + (l.length : Int) ≤ 4611686018427387900) : ∃ K, ∀ k, K ≤ k → laws_markNimberS.f k l c = some (c + (l.length : Int), marks .u16 c l.length) :=
  mark_ev (fun _ _ _ => rfl) (fun _ _ _ _ => rfl) l c h0 h
theorem heldNimberS_ev (n : Nat) (c : Int) (h0 : 0 ≤ c) (h : c + (n : Int) ≤ 4611686018427387900) : ∃ K, ∀ k, K ≤ k → laws_heldNimberS.f k (marks .u16 c n) c = some (c + (n : Int)) :=
  held_ev (fun _ _ _ => rfl) (fun _ _ _ _ => rfl) n c h0 h

theorem conj_same (k : Nat) : ∀ (a : Int) (l : List Int) (x : Int), spec_ConjugatesOf.l0 k a l x = impl_conjugates.l0 k a l x := by
  induction k with
  | zero => intro a l x; rfl
  | succ k ih =>
    intro a l x
    simp only [spec_ConjugatesOf.l0, impl_conjugates.l0, ih]
    rfl
theorem conj_ends (a : Nat) (ha : a < 65536) : ∀ (d i : Nat) (l : List Int), i + d = 16 → 1 ≤ i → l.length = i → ∃ r : List Int, r.length ≤ 16 ∧ Ev (fun k => impl_conjugates.l0 k (a : Int) l ((sqn i a : Nat) : Int)) r := by
  intro d
  induction d with
  | zero =>
    intro i l hi h1 hl
    have hi16 : i = 16 := by omega
    subst hi16
    rw [sqn16 ha]
    exact ⟨l, by omega, Ev.step (f := fun _ => some l) (fun k => by simp only [impl_conjugates.l0]; rw [if_pos trivial]) (Ev.now _)⟩
  | succ d ih =>
    intro i l hi h1 hl
    by_cases he : ((sqn i a : Nat) : Int) = (a : Int)
    · exact ⟨l, by omega, Ev.step (f := fun _ => some l) (fun k => by simp only [impl_conjugates.l0]; rw [if_pos he]) (Ev.now _)⟩
    · obtain ⟨r, hr, e⟩ := ih (i + 1) (l ++ [((sqn i a : Nat) : Int)]) (by omega) (by omega) (by simp [hl])
      rw [sqn_succ] at e
      have hs := sqn_lt ha i
      generalize sqn i a = s at e he hs
      refine ⟨r, hr, Ev.step (f := fun k => impl_conjugates.l0 k (a : Int) (l ++ [(s : Int)]) ((nm 4 s s : Nat) : Int)) (fun k => ?_) e⟩
      simp only [impl_conjugates.l0]
      rw [if_neg he, if_pos (by omega), it hs hs, Option.bind_some]
theorem conj_both (a : Nat) (ha : a < 65536) : ∃ K, ∃ r : List Int, r.length ≤ 16 ∧ ∀ k, K ≤ k → spec_ConjugatesOf.f k (a : Int) = some r ∧ impl_ConjugatesOf.f k (a : Int) = some r := by
  obtain ⟨r, hr, K, h⟩ := conj_ends a ha 15 1 [(a : Int)] (by omega) (by omega) rfl
  have e1 : sqn 1 a = nm 4 a a := rfl
  rw [e1] at h
  refine ⟨K, r, hr, fun k hk => ⟨?_, ?_⟩⟩
  · unfold spec_ConjugatesOf.f
    rw [st ha ha, Option.bind_some, conj_same]
    exact h k hk
  · unfold impl_ConjugatesOf.f impl_conjugates.f
    have h' := h k hk
    simp only at h'
    rw [it ha ha, Option.bind_some, h', Option.bind_some]

theorem FnExactConjugatesOf : laws_FnExactConjugatesOf.Pure := by
  intro a0 h0
  obtain ⟨a, rfl, ha⟩ := wf_u16 h0
  obtain ⟨K1, r, hr, h1⟩ := conj_both a ha
  obtain ⟨K2, h2⟩ := eqNimberS_ev r (by omega)
  obtain ⟨K3, h3⟩ := markNimberS_ev r 1 (by omega) (by omega)
  obtain ⟨K4, h4⟩ := heldNimberS_ev r.length 1 (by omega) (by omega)
  obtain ⟨K, hK⟩ : ∃ K, K = K1 + K2 + K3 + K4 := ⟨_, rfl⟩
  have n2 : ¬ (1 + (r.length : Int) < 0) := by omega
  refine ⟨K, ?_⟩
  unfold laws_FnExactConjugatesOf.f
  simp only [Option.bind_some, (h1 K (by omega)).1, (h1 K (by omega)).2, h2 K (by omega), h3 K (by omega), h4 K (by omega), n2, if_false, if_true]

end Go.Proofs.Ytenmcdnjbplnlaa.Pure
