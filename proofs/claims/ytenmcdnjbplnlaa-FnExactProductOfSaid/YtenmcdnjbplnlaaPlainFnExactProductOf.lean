/- The law FnExactProductOf returns true for all arguments, as a statement on numbers and lists alone. -/
import Derived.Test.YtenmcdnjbplnlaaRFnExactProductOfx1
import Derived.Test.YtenmcdnjbplnlaaN1
namespace Go.Proofs.Ytenmcdnjbplnlaa.Pure
open Go.RowKit Go.Proofs.Ytenmcdnjbplnlaa.RFnExactProductOf Go.Proofs.YtenmcdnjbplnlaaW.PrintWords Go.Proofs.YtenmcdnjbplnlaaW.PrintLast Go.Proofs.YtenmcdnjbplnlaaW.PrintMore Go.Proofs.Ytenmcdnjbplnlaa.NimF Go.Proofs.Ytenmcdnjbplnlaa.NimGo Go.Proofs.Ytenmcdnjbplnlaa.Given
theorem st {a b : Nat} (ha : a < 65536) (hb : b < 65536) : spec_l01Times.f (a : Int) (b : Int) = some ((nm 4 a b : Nat) : Int) := nimTimes_nat ha hb

theorem it {a b : Nat} (ha : a < 65536) (hb : b < 65536) : impl_times.f (a : Int) (b : Int) = some ((nm 4 a b : Nat) : Int) := nimTimes_nat ha hb

theorem toNimberS_ev (l : List Int) (h : l.length ≤ 1048576) : ∃ K, ∀ k, K ≤ k → laws_toNimberS.f k l = some l :=
  to_ev (fun _ _ => rfl) (fun _ _ _ _ => rfl) l (by omega)
theorem eqNimberS_ev (l : List Int) (h : l.length ≤ 1048576) : ∃ K, ∀ k, K ≤ k → laws_eqNimberS.f k l l = some true :=
  eq_refl_ev (fun _ _ _ => rfl) (fun _ _ _ _ => rfl) l (by omega)

theorem prod_both (l : List Int) (wl : ∀ x ∈ l, (Lit.int .u16 x).wf = true) (hl : l.length ≤ 1048576) : ∀ (d i o : Nat), i + d = l.length → o < 65536 → ∃ r : Int,
    Ev (fun k => spec_ProductOf.l0 k l (o : Int) (i : Int)) r ∧ Ev (fun k => impl_ProductOf.l0 k (o : Int) l (l.length : Int) (i : Int)) r := by
  intro d
  induction d with
  | zero =>
    intro i o hi ho
    exact ⟨(o : Int), Ev.step (f := fun _ => some (o : Int)) (fun k => by simp only [spec_ProductOf.l0]; rw [if_neg (by omega)]) (Ev.now _),
      Ev.step (f := fun _ => some (o : Int)) (fun k => by simp only [impl_ProductOf.l0]; rw [if_neg (by omega)]) (Ev.now _)⟩
  | succ d ih =>
    intro i o hi ho
    have e : l.getD i 0 = l[i] := by simp [List.getD, show i < l.length by omega]
    obtain ⟨v, hv, lv⟩ := wf_u16 (wl _ (List.getElem_mem (show i < l.length by omega)))
    rw [← e] at hv
    obtain ⟨r, h1, h2⟩ := ih (i + 1) (nm 4 o v) (by omega) (nm4_lt _ _)
    refine ⟨r, Ev.step (f := fun k => spec_ProductOf.l0 k l ((nm 4 o v : Nat) : Int) ((i + 1 : Nat) : Int)) (fun k => ?_) h1, Ev.step (f := fun k => impl_ProductOf.l0 k ((nm 4 o v : Nat) : Int) l (l.length : Int) ((i + 1 : Nat) : Int)) (fun k => ?_) h2⟩
    · simp only [spec_ProductOf.l0]
      rw [if_pos (by omega), if_pos (by omega), rd_nat, hv, st ho lv, w64s (by omega), Option.bind_some]
    · simp only [impl_ProductOf.l0]
      rw [if_pos (by omega), if_pos (by omega), if_pos (by omega), rd_nat, hv, it ho lv, w64s (by omega), Option.bind_some]
theorem FnExactProductOf : laws_FnExactProductOf.Pure := by
  intro l _ _ wl
  by_cases hb : (l.length : Int) > 1048576
  · exact ⟨0, by unfold laws_FnExactProductOf.f; rw [if_pos hb]⟩
  · have hl : l.length ≤ 1048576 := by omega
    obtain ⟨K1, h1⟩ := toNimberS_ev l hl
    obtain ⟨K2, h2⟩ := eqNimberS_ev l hl
    obtain ⟨r, ⟨K3, h3⟩, ⟨K4, h4⟩⟩ := prod_both l wl hl l.length 0 1 (by omega) (by omega)
    refine ⟨K1 + K2 + K3 + K4, ?_⟩
    have h3' : spec_ProductOf.f (K1 + K2 + K3 + K4) l = some r := h3 _ (by omega)
    have h4' : impl_ProductOf.f (K1 + K2 + K3 + K4) l = some r := h4 _ (by omega)
    unfold laws_FnExactProductOf.f
    rw [if_neg hb, h1 _ (by omega)]
    simp only [Option.bind_some, h3', h4', h2 (K1 + K2 + K3 + K4) (by omega), if_true]

end Go.Proofs.Ytenmcdnjbplnlaa.Pure
