/- WIP -/
import Derived.Test.YtiigbilpoakgiaaPFnExactWeightOfx1
import Derived.Test.YtiigbilpoakgiaaN1
namespace Go.Proofs.Ytiigbilpoakgiaa.Pure
open Go.RowKit Go.Proofs.Ytiigbilpoakgiaa.PFnExactWeightOf Go.Proofs.YtiigbilpoakgiaaW.PrintWords Go.Proofs.YtiigbilpoakgiaaW.PrintLast Go.Proofs.YtiigbilpoakgiaaW.PrintMore Go.Proofs.Ytiigbilpoakgiaa.NimF Go.Proofs.Ytiigbilpoakgiaa.NimGo
theorem toWord_ev (l : List Int) (h : l.length ≤ 1048576) : ∃ K, ∀ k, K ≤ k → laws_toWord.f k l = some l :=
  to_ev (fun _ _ => rfl) (fun _ _ _ _ => rfl) l (by omega)
theorem eqWord_ev (l : List Int) (h : l.length ≤ 1048576) : ∃ K, ∀ k, K ≤ k → laws_eqWord.f k l l = some true :=
  eq_refl_ev (fun _ _ _ => rfl) (fun _ _ _ _ => rfl) l (by omega)

def weight (l : List Int) : Nat := l.countP (fun x => x != 0)
theorem weight_zero {x : Int} (l : List Int) (h : x = 0) : weight (x :: l) = weight l := by unfold weight; rw [List.countP_cons]; simp [h]
theorem weight_one {x : Int} (l : List Int) (h : ¬ x = 0) : weight (x :: l) = weight l + 1 := by unfold weight; rw [List.countP_cons]; simp [h]
theorem weight_le (l : List Int) : weight l ≤ l.length := List.countP_le_length
theorem spec_weight_loop (l : List Int) (h : l.length ≤ 1048576) : ∀ d i (n : Nat), i + d = l.length → n ≤ i → Ev (fun k => spec_WeightOf.l0 k l (n : Int) (i : Int)) ((n + weight (l.drop i) : Nat) : Int) := by
  intro d
  induction d with
  | zero =>
    intro i n hi hn
    rw [List.drop_eq_nil_of_le (by omega)]
    exact Ev.step (f := fun _ => some (n : Int)) (fun k => by simp only [spec_WeightOf.l0]; rw [if_neg (by omega)]) (Ev.now _)
  | succ d ih =>
    intro i n hi hn
    have hd : l.drop i = l[i] :: l.drop (i + 1) := List.drop_eq_getElem_cons (by omega)
    have he : l.getD i 0 = l[i] := by simp [List.getD, show i < l.length by omega]
    by_cases hz : l[i] = 0
    · have hw : weight (l.drop i) = weight (l.drop (i + 1)) := by rw [hd, weight_zero _ hz]
      rw [hw]
      refine Ev.step (f := fun k => spec_WeightOf.l0 k l (n : Int) ((i + 1 : Nat) : Int)) (fun k => ?_) (ih (i + 1) n (by omega) (by omega))
      simp only [spec_WeightOf.l0]
      rw [if_pos (by omega), if_pos (by omega), rd_nat, he, if_pos hz, w64s (by omega)]
    · have hw : n + weight (l.drop i) = n + 1 + weight (l.drop (i + 1)) := by rw [hd, weight_one _ hz]; omega
      rw [hw]
      refine Ev.step (f := fun k => spec_WeightOf.l0 k l ((n + 1 : Nat) : Int) ((i + 1 : Nat) : Int)) (fun k => ?_) (ih (i + 1) (n + 1) (by omega) (by omega))
      simp only [spec_WeightOf.l0]
      rw [if_pos (by omega), if_pos (by omega), rd_nat, he, if_neg hz, w64s (by omega), w64s (by omega)]
theorem impl_weight_loop (l : List Int) (h : l.length ≤ 1048576) : ∀ d i (n : Nat), i + d = l.length → n ≤ i → Ev (fun k => impl_WeightOf.l0 k (n : Int) l (l.length : Int) (i : Int)) ((n + weight (l.drop i) : Nat) : Int) := by
  intro d
  induction d with
  | zero =>
    intro i n hi hn
    rw [List.drop_eq_nil_of_le (by omega)]
    exact Ev.step (f := fun _ => some (n : Int)) (fun k => by simp only [impl_WeightOf.l0]; rw [if_neg (by omega)]) (Ev.now _)
  | succ d ih =>
    intro i n hi hn
    have hd : l.drop i = l[i] :: l.drop (i + 1) := List.drop_eq_getElem_cons (by omega)
    have he : l.getD i 0 = l[i] := by simp [List.getD, show i < l.length by omega]
    by_cases hz : l[i] = 0
    · have hw : weight (l.drop i) = weight (l.drop (i + 1)) := by rw [hd, weight_zero _ hz]
      rw [hw]
      refine Ev.step (f := fun k => impl_WeightOf.l0 k (n : Int) l (l.length : Int) ((i + 1 : Nat) : Int)) (fun k => ?_) (ih (i + 1) n (by omega) (by omega))
      simp only [impl_WeightOf.l0]
      rw [if_pos (by omega), if_pos (by omega), if_pos (by omega), rd_nat, he, if_pos hz, w64s (by omega)]
    · have hw : n + weight (l.drop i) = n + 1 + weight (l.drop (i + 1)) := by rw [hd, weight_one _ hz]; omega
      rw [hw]
      refine Ev.step (f := fun k => impl_WeightOf.l0 k ((n + 1 : Nat) : Int) l (l.length : Int) ((i + 1 : Nat) : Int)) (fun k => ?_) (ih (i + 1) (n + 1) (by omega) (by omega))
      simp only [impl_WeightOf.l0]
      rw [if_pos (by omega), if_pos (by omega), if_pos (by omega), rd_nat, he, if_neg hz, w64s (by omega), w64s (by omega)]
theorem impl_weight (l : List Int) (h : l.length ≤ 1048576) : ∃ K, ∀ k, K ≤ k → impl_WeightOf.f k l = some ((weight l : Nat) : Int) := by
  have e := impl_weight_loop l h l.length 0 0 (by omega) (by omega)
  rw [Nat.zero_add, List.drop_zero] at e
  exact e

theorem FnExactWeightOf : laws_FnExactWeightOf.Pure := by
  intro l _ _ hw
  by_cases hb : (l.length : Int) > 1048576
  · exact ⟨0, by unfold laws_FnExactWeightOf.f; rw [if_pos hb]⟩
  · have hl : l.length ≤ 1048576 := by omega
    obtain ⟨K1, h1⟩ := toWord_ev l hl
    obtain ⟨K2, h2⟩ := eqWord_ev l hl
    obtain ⟨K3, h3⟩ := impl_weight l hl
    have e := spec_weight_loop l hl l.length 0 0 (by omega) (by omega)
    rw [Nat.zero_add, List.drop_zero] at e
    obtain ⟨K4, h4⟩ := e
    refine ⟨K1 + K2 + K3 + K4, ?_⟩
    have h4' : spec_WeightOf.f (K1 + K2 + K3 + K4) l = some ((weight l : Nat) : Int) := h4 _ (by omega)
    unfold laws_FnExactWeightOf.f
    rw [if_neg hb, h1 _ (by omega)]
    simp only [Option.bind_some, h4', h3 (K1 + K2 + K3 + K4) (by omega), h2 (K1 + K2 + K3 + K4) (by omega), if_true]

end Go.Proofs.Ytiigbilpoakgiaa.Pure
