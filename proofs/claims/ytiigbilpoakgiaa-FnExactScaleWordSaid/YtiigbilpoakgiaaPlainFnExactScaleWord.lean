/- The law FnExactScaleWord returns true for all arguments, as a statement on numbers and lists alone. -/
import Derived.Test.YtiigbilpoakgiaaRFnExactScaleWordx2
import Derived.Test.YtiigbilpoakgiaaN1
namespace Go.Proofs.Ytiigbilpoakgiaa.Pure
open Go.RowKit Go.Proofs.Ytiigbilpoakgiaa.RFnExactScaleWord Go.Proofs.YtiigbilpoakgiaaW.PrintWords Go.Proofs.YtiigbilpoakgiaaW.PrintLast Go.Proofs.YtiigbilpoakgiaaW.PrintMore Go.Proofs.Ytiigbilpoakgiaa.NimF Go.Proofs.Ytiigbilpoakgiaa.NimGo Go.Proofs.Ytiigbilpoakgiaa.Given
theorem st {a b : Nat} (ha : a < 65536) (hb : b < 65536) : spec_l01Times.f (a : Int) (b : Int) = some ((nm 4 a b : Nat) : Int) := nimTimes_nat ha hb

theorem it {a b : Nat} (ha : a < 65536) (hb : b < 65536) : impl_times.f (a : Int) (b : Int) = some ((nm 4 a b : Nat) : Int) := nimTimes_nat ha hb

theorem toWord_ev (l : List Int) (h : l.length ≤ 1048576) : ∃ K, ∀ k, K ≤ k → laws_toWord.f k l = some l :=
  to_ev (fun _ _ => rfl) (fun _ _ _ _ => rfl) l (by omega)
theorem eqWord_ev (l : List Int) (h : l.length ≤ 1048576) : ∃ K, ∀ k, K ≤ k → laws_eqWord.f k l l = some true :=
  eq_refl_ev (fun _ _ _ => rfl) (fun _ _ _ _ => rfl) l (by omega)

theorem markWord_ev (l : List Int) (c : Int) (h0 : 0 ≤ c) (h : c + (l.length : Int) ≤ 4611686018427387900) : ∃ K, ∀ k, K ≤ k → laws_markWord.f k l c = some (c + (l.length : Int), marks .u16 c l.length) :=
  mark_ev (fun _ _ _ => rfl) (fun _ _ _ _ => rfl) l c h0 h
theorem heldWord_ev (n : Nat) (c : Int) (h0 : 0 ≤ c) (h : c + (n : Int) ≤ 4611686018427387900) : ∃ K, ∀ k, K ≤ k → laws_heldWord.f k (marks .u16 c n) c = some (c + (n : Int)) :=
  held_ev (fun _ _ _ => rfl) (fun _ _ _ _ => rfl) n c h0 h

theorem getD_nat {l : List Int} (h : ∀ x ∈ l, (Lit.int .u16 x).wf = true) {i : Nat} (hi : i < l.length) : ∃ v : Nat, l.getD i 0 = (v : Int) ∧ v < 65536 := by
  have e : l.getD i 0 = l[i] := by simp [List.getD, hi]
  obtain ⟨v, hv, lv⟩ := wf_u16 (h _ (List.getElem_mem hi))
  exact ⟨v, e.trans hv, lv⟩

theorem scale_both (a : Nat) (ha : a < 65536) (l : List Int) (wl : ∀ x ∈ l, (Lit.int .u16 x).wf = true) (hl : l.length ≤ 7) : ∀ (d i : Nat) (x : List Int), i + d = l.length → x.length = i → ∃ r : List Int, r.length ≤ 7 ∧
    Ev (fun k => spec_l06Scale.l0 k (a : Int) l x (i : Int)) r ∧ Ev (fun k => impl_Word_scale.l0 k (a : Int) x l (l.length : Int) (i : Int)) r := by
  intro d
  induction d with
  | zero =>
    intro i x hi hx
    exact ⟨x, by omega, Ev.step (f := fun _ => some x) (fun k => by simp only [spec_l06Scale.l0]; rw [if_neg (by omega)]) (Ev.now _),
      Ev.step (f := fun _ => some x) (fun k => by simp only [impl_Word_scale.l0]; rw [if_neg (by omega)]) (Ev.now _)⟩
  | succ d ih =>
    intro i x hi hx
    obtain ⟨v, hv, lv⟩ := getD_nat wl (show i < l.length by omega)
    obtain ⟨r, hr, h1, h2⟩ := ih (i + 1) (x ++ [((nm 4 a v : Nat) : Int)]) (by omega) (by simp [hx])
    refine ⟨r, hr, Ev.step (f := fun k => spec_l06Scale.l0 k (a : Int) l (x ++ [((nm 4 a v : Nat) : Int)]) ((i + 1 : Nat) : Int)) (fun k => ?_) h1,
      Ev.step (f := fun k => impl_Word_scale.l0 k (a : Int) (x ++ [((nm 4 a v : Nat) : Int)]) l (l.length : Int) ((i + 1 : Nat) : Int)) (fun k => ?_) h2⟩
    · simp only [spec_l06Scale.l0]
      rw [if_pos (by omega), if_pos (by omega), rd_nat, hv, st ha lv, Option.bind_some, if_pos (by omega), w64s (by omega)]
    · simp only [impl_Word_scale.l0]
      rw [if_pos (by omega), if_pos (by omega), if_pos (by omega), rd_nat, hv, it ha lv, Option.bind_some, if_pos (by omega), w64s (by omega)]
theorem scale_same (a : Nat) (l : List Int) (ha : a < 65536) (wl : ∀ x ∈ l, (Lit.int .u16 x).wf = true) (_ : l.length ≤ 1048576) : ∃ K, ∃ r : List Int, ∃ c : Int, r.length ≤ 1048576 ∧ ∀ k, K ≤ k → spec_ScaleWord.f k (a : Int) l = some (r, c) ∧ impl_ScaleWord.f k (a : Int) l = some (r, c) := by
  unfold spec_ScaleWord.f impl_ScaleWord.f
  by_cases h7 : (l.length : Int) > 7
  · exact ⟨0, [], 3, by simp, fun k _ => ⟨by rw [if_pos h7], by rw [if_pos h7]⟩⟩
  · obtain ⟨r, hr, ⟨K1, h1⟩, ⟨K2, h2⟩⟩ := scale_both a ha l wl (by omega) l.length 0 [] (by omega) rfl
    refine ⟨K1 + K2, r, 0, by omega, fun k hk => ⟨?_, ?_⟩⟩
    · have h1' : spec_l06Scale.f k (a : Int) l = some r := h1 k (by omega)
      rw [if_neg h7, h1', Option.bind_some]
    · have h2' : impl_Word_scale.f k l (a : Int) = some r := h2 k (by omega)
      rw [if_neg h7, h2', Option.bind_some]

theorem FnExactScaleWord : laws_FnExactScaleWord.Pure := by
  intro a0 l h0 _ _ wl
  obtain ⟨a, rfl, ha⟩ := wf_u16 h0
  by_cases hb : (l.length : Int) > 1048576
  · exact ⟨0, by unfold laws_FnExactScaleWord.f; rw [if_pos hb]⟩
  have hl : l.length ≤ 1048576 := by omega
  obtain ⟨K1, h1⟩ := toWord_ev l hl
  obtain ⟨K3, h3⟩ := eqWord_ev l hl
  obtain ⟨K5, r, c, hr, h5⟩ := scale_same a l ha wl hl
  obtain ⟨K6, h6⟩ := eqWord_ev r hr
  obtain ⟨K7, h7⟩ := markWord_ev l 1 (by omega) (by omega)
  obtain ⟨K9, h9⟩ := markWord_ev r 1 (by omega) (by omega)
  obtain ⟨K10, h10⟩ := heldWord_ev r.length 1 (by omega) (by omega)
  obtain ⟨K, hK⟩ : ∃ K, K = K1 + K3 + K5 + K6 + K7 + K9 + K10 := ⟨_, rfl⟩
  have n1 : ¬ (1 + (l.length : Int) < 0) := by omega
  have n2 : ¬ (1 + (r.length : Int) < 0) := by omega
  refine ⟨K + 3, ?_⟩
  unfold laws_FnExactScaleWord.f
  rw [if_neg hb]
  simp only [Option.bind_some, h1 (K + 3) (by omega), (h5 (K + 3) (by omega)).1, (h5 (K + 3) (by omega)).2, h6 (K + 3) (by omega), if_true, bne_self_eq_false, laws_FnExactScaleWord.j0,
    h1 (K + 2) (by omega), h3 (K + 2) (by omega), h7 (K + 2) (by omega), n1, if_false, h6 (K + 2) (by omega), laws_FnExactScaleWord.j1,
    h9 (K + 1) (by omega), h10 (K + 1) (by omega), n2, h1 (K + 1) (by omega), (h5 (K + 1) (by omega)).2, h6 (K + 1) (by omega), laws_FnExactScaleWord.j2, h10 K (by omega), Bool.false_eq_true]

end Go.Proofs.Ytiigbilpoakgiaa.Pure
