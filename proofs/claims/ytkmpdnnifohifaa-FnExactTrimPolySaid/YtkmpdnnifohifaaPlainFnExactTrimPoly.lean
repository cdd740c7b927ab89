/- The law FnExactTrimPoly returns true for all arguments, as a statement on numbers and lists alone. -/
import Derived.Test.YtkmpdnnifohifaaRFnExactTrimPolyx2
import Derived.Test.YtkmpdnnifohifaaN1
namespace Go.Proofs.Ytkmpdnnifohifaa.Pure
open Go.RowKit Go.Proofs.Ytkmpdnnifohifaa.RFnExactTrimPoly Go.Proofs.YtkmpdnnifohifaaW.PrintWords Go.Proofs.YtkmpdnnifohifaaW.PrintLast Go.Proofs.YtkmpdnnifohifaaW.PrintMore Go.Proofs.Ytkmpdnnifohifaa.NimF Go.Proofs.Ytkmpdnnifohifaa.NimGo Go.Proofs.Ytkmpdnnifohifaa.Given
theorem toNimberS_ev (l : List Int) (h : l.length ≤ 1048576) : ∃ K, ∀ k, K ≤ k → laws_toNimberS.f k l = some l :=
  to_ev (fun _ _ => rfl) (fun _ _ _ _ => rfl) l (by omega)
theorem eqNimberS_ev (l : List Int) (h : l.length ≤ 1048576) : ∃ K, ∀ k, K ≤ k → laws_eqNimberS.f k l l = some true :=
  eq_refl_ev (fun _ _ _ => rfl) (fun _ _ _ _ => rfl) l (by omega)

theorem eqPoly_ev (l : List Int) (h : l.length ≤ 1048576) : ∃ K, ∀ k, K ≤ k → laws_eqPoly.f k l l = some true :=
  eq_refl_ev (fun _ _ _ => rfl) (fun _ _ _ _ => rfl) l (by omega)

theorem markPoly_ev (l : List Int) (c : Int) (h0 : 0 ≤ c) (h : c + (l.length : Int) ≤ 4611686018427387900) : ∃ K, ∀ k, K ≤ k → laws_markPoly.f k l c = some (c + (l.length : Int), marks .u16 c l.length) :=
  mark_ev (fun _ _ _ => rfl) (fun _ _ _ _ => rfl) l c h0 h
theorem heldPoly_ev (n : Nat) (c : Int) (h0 : 0 ≤ c) (h : c + (n : Int) ≤ 4611686018427387900) : ∃ K, ∀ k, K ≤ k → laws_heldPoly.f k (marks .u16 c n) c = some (c + (n : Int)) :=
  held_ev (fun _ _ _ => rfl) (fun _ _ _ _ => rfl) n c h0 h

theorem markNimberS_ev (l : List Int) (c : Int) (h0 : 0 ≤ c) (h : c + (l.length : Int) ≤ 4611686018427387900) : ∃ K, ∀ k, K ≤ k → laws_markNimberS.f k l c = some (c + (l.length : Int), marks .u16 c l.length) :=
  mark_ev (fun _ _ _ => rfl) (fun _ _ _ _ => rfl) l c h0 h

theorem strim_loop (l : List Int) (hl : l.length ≤ 2097152) : ∀ n, n ≤ l.length → Ev (fun k => spec_l05Trim.l0 k l (n : Int)) (l.take (trimN l n)) := by
  intro n
  induction n with
  | zero =>
    intro _
    refine Ev.step (f := fun _ => some []) (fun k => ?_) (Ev.now _)
    simp only [spec_l05Trim.l0]
    rw [if_neg (by omega), Option.bind_some, if_pos (by omega), if_pos (by omega), if_pos (by simp)]
    simp
  | succ n ih =>
    intro hn
    have w : wrap64 (((n + 1 : Nat) : Int) - 1) = (n : Int) := by unfold wrap64; omega
    rw [trimN_succ]
    by_cases hz : l.getD n 0 = 0
    · rw [if_pos hz]
      refine Ev.step (f := fun k => spec_l05Trim.l0 k l (n : Int)) (fun k => ?_) (ih (by omega))
      simp only [spec_l05Trim.l0]
      rw [if_pos (by omega), w, if_pos (by omega), if_pos (by omega), rd_nat, if_pos hz]
    · rw [if_neg hz]
      refine Ev.step (f := fun _ => some (l.take (n + 1))) (fun k => ?_) (Ev.now _)
      simp only [spec_l05Trim.l0]
      rw [if_pos (by omega), w, if_pos (by omega), if_pos (by omega), rd_nat, if_neg hz, Option.bind_some, if_pos (by omega), if_pos (by omega), if_pos (by rw [Int.toNat_natCast, List.length_take]; simp only [List.length_nil]; omega), Int.toNat_natCast]
      rfl
theorem strim_ev (l : List Int) (hl : l.length ≤ 2097152) : ∃ K, ∀ k, K ≤ k → spec_l05Trim.f k l = some (trimL l) := strim_loop l hl l.length (Nat.le_refl _)

theorem itrim (l : List Int) (hl : l.length ≤ 2097152) : impl_trim.f l = some (trimL l) := by
  unfold impl_trim.f cloneL
  rw [if_pos (by rw [trimL_length]; have := trimN_le l l.length; omega)]

theorem trim_same (l : List Int) (hl : l.length ≤ 1048576) : ∃ K, ∃ r : List Int, ∃ c : Int, r.length ≤ 1048576 ∧ ∀ k, K ≤ k → spec_TrimPoly.f k l = some (r, c) ∧ impl_TrimPoly.f l = some (r, c) := by
  obtain ⟨K, h⟩ := strim_ev l (by omega)
  unfold spec_TrimPoly.f impl_TrimPoly.f
  have hle : (trimL l).length ≤ l.length := by rw [trimL_length]; exact trimN_le l l.length
  by_cases h21 : ((trimL l).length : Int) > 21
  · exact ⟨K, [], 3, by simp, fun k hk => by rw [h k hk, itrim l (by omega), Option.bind_some, if_pos h21]; exact ⟨rfl, rfl⟩⟩
  · exact ⟨K, trimL l, 0, by omega, fun k hk => by rw [h k hk, itrim l (by omega), Option.bind_some, if_neg h21]; exact ⟨rfl, rfl⟩⟩

theorem FnExactTrimPoly : laws_FnExactTrimPoly.Pure := by
  intro l _ _ wl
  by_cases hb : (l.length : Int) > 1048576
  · exact ⟨0, by unfold laws_FnExactTrimPoly.f; rw [if_pos hb]⟩
  have hl : l.length ≤ 1048576 := by omega
  obtain ⟨K1, h1⟩ := toNimberS_ev l hl
  obtain ⟨K3, h3⟩ := eqNimberS_ev l hl
  obtain ⟨K5, r, c, hr, h5⟩ := trim_same l hl
  obtain ⟨K6, h6⟩ := eqPoly_ev r hr
  obtain ⟨K7, h7⟩ := markNimberS_ev l 1 (by omega) (by omega)
  obtain ⟨K9, h9⟩ := markPoly_ev r 1 (by omega) (by omega)
  obtain ⟨K10, h10⟩ := heldPoly_ev r.length 1 (by omega) (by omega)
  obtain ⟨K, hK⟩ : ∃ K, K = K1 + K3 + K5 + K6 + K7 + K9 + K10 := ⟨_, rfl⟩
  have n1 : ¬ (1 + (l.length : Int) < 0) := by omega
  have n2 : ¬ (1 + (r.length : Int) < 0) := by omega
  refine ⟨K + 3, ?_⟩
  unfold laws_FnExactTrimPoly.f
  rw [if_neg hb]
  simp only [Option.bind_some, h1 (K + 3) (by omega), (h5 (K + 3) (by omega)).1, (h5 (K + 3) (by omega)).2, h6 (K + 3) (by omega), if_true, bne_self_eq_false, laws_FnExactTrimPoly.j0,
    h1 (K + 2) (by omega), h3 (K + 2) (by omega), h7 (K + 2) (by omega), n1, if_false, h6 (K + 2) (by omega), laws_FnExactTrimPoly.j1,
    h9 (K + 1) (by omega), h10 (K + 1) (by omega), n2, h1 (K + 1) (by omega), (h5 (K + 1) (by omega)).2, h6 (K + 1) (by omega), laws_FnExactTrimPoly.j2, h10 K (by omega), Bool.false_eq_true]

end Go.Proofs.Ytkmpdnnifohifaa.Pure
