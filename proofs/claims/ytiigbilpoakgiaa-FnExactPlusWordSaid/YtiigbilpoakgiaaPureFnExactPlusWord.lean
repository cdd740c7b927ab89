/- The law FnExactPlusWord returns true for all arguments, as a statement on numbers and lists alone. -/
import Derived.Test.YtiigbilpoakgiaaPFnExactPlusWordx2
import Derived.Test.YtiigbilpoakgiaaN1
namespace Go.Proofs.Ytiigbilpoakgiaa.Pure
open Go.RowKit Go.Proofs.Ytiigbilpoakgiaa.PFnExactPlusWord Go.Proofs.YtiigbilpoakgiaaW.PrintWords Go.Proofs.YtiigbilpoakgiaaW.PrintLast Go.Proofs.YtiigbilpoakgiaaW.PrintMore Go.Proofs.Ytiigbilpoakgiaa.NimF Go.Proofs.Ytiigbilpoakgiaa.NimGo
theorem toWord_ev (l : List Int) (h : l.length ≤ 1048576) : ∃ K, ∀ k, K ≤ k → laws_toWord.f k l = some l :=
  to_ev (fun _ _ => rfl) (fun _ _ _ _ => rfl) l (by omega)
theorem eqWord_ev (l : List Int) (h : l.length ≤ 1048576) : ∃ K, ∀ k, K ≤ k → laws_eqWord.f k l l = some true :=
  eq_refl_ev (fun _ _ _ => rfl) (fun _ _ _ _ => rfl) l (by omega)

theorem markWord_ev (l : List Int) (c : Int) (h0 : 0 ≤ c) (h : c + (l.length : Int) ≤ 4611686018427387900) : ∃ K, ∀ k, K ≤ k → laws_markWord.f k l c = some (c + (l.length : Int), marks .u16 c l.length) :=
  mark_ev (fun _ _ _ => rfl) (fun _ _ _ _ => rfl) l c h0 h
theorem heldWord_ev (n : Nat) (c : Int) (h0 : 0 ≤ c) (h : c + (n : Int) ≤ 4611686018427387900) : ∃ K, ∀ k, K ≤ k → laws_heldWord.f k (marks .u16 c n) c = some (c + (n : Int)) :=
  held_ev (fun _ _ _ => rfl) (fun _ _ _ _ => rfl) n c h0 h

def xorl (a b : List Int) : List Int := List.zipWith (fun x y => Go.bits .xor .u16 x y) a b
theorem xorl_length {a b : List Int} (h : a.length = b.length) : (xorl a b).length = a.length := by
  unfold xorl; rw [List.length_zipWith]; omega
theorem xorl_drop {a b : List Int} {i : Nat} (ha : i < a.length) (hb : i < b.length) : (xorl a b).drop i = Go.bits .xor .u16 (a.getD i 0) (b.getD i 0) :: (xorl a b).drop (i + 1) := by
  have h : i < (xorl a b).length := by unfold xorl; rw [List.length_zipWith]; omega
  rw [List.drop_eq_getElem_cons h]
  congr 1
  simp [xorl, List.getD, ha, hb]
theorem plus_loop (a b : List Int) (hl : a.length = b.length) (h7 : a.length ≤ 1048576) : ∀ (d i : Nat) (x : List Int), i + d = a.length → x.length = i → Ev (fun k => impl_Word_plus.l0 k b x a (a.length : Int) (i : Int)) (x ++ (xorl a b).drop i) := by
  intro d
  induction d with
  | zero =>
    intro i x hi hx
    rw [List.drop_eq_nil_of_le (by rw [xorl_length hl]; omega), List.append_nil]
    exact Ev.step (f := fun _ => some x) (fun k => by simp only [impl_Word_plus.l0]; rw [if_neg (by omega)]) (Ev.now _)
  | succ d ih =>
    intro i x hi hx
    have e := ih (i + 1) (x ++ [Go.bits .xor .u16 (a.getD i 0) (b.getD i 0)]) (by omega) (by simp [hx])
    rw [xorl_drop (by omega) (by omega)]
    rw [List.append_assoc, List.singleton_append] at e
    refine Ev.step (f := fun k => impl_Word_plus.l0 k b (x ++ [Go.bits .xor .u16 (a.getD i 0) (b.getD i 0)]) a (a.length : Int) ((i + 1 : Nat) : Int)) (fun k => ?_) e
    simp only [impl_Word_plus.l0]
    rw [if_pos (by omega), if_pos (by omega), if_pos (by omega), if_pos (by omega), if_pos (by omega), rd_nat, rd_nat, w64s (by omega)]
theorem plus_ev (a b : List Int) (hl : a.length = b.length) (h7 : a.length ≤ 1048576) : ∃ K, ∀ k, K ≤ k → impl_Word_plus.f k a b = some (xorl a b) := by
  have e := plus_loop a b hl h7 a.length 0 [] (by omega) rfl
  rw [List.nil_append, List.drop_zero] at e
  exact e

theorem splus_loop (a b : List Int) (hl : a.length = b.length) (h7 : a.length ≤ 1048576) : ∀ (d i : Nat) (x : List Int), i + d = a.length → x.length = i → Ev (fun k => spec_l06Plus.l0 k a b x (i : Int)) (x ++ (xorl a b).drop i) := by
  intro d
  induction d with
  | zero =>
    intro i x hi hx
    rw [List.drop_eq_nil_of_le (by rw [xorl_length hl]; omega), List.append_nil]
    exact Ev.step (f := fun _ => some x) (fun k => by simp only [spec_l06Plus.l0]; rw [if_neg (by omega)]) (Ev.now _)
  | succ d ih =>
    intro i x hi hx
    have e := ih (i + 1) (x ++ [Go.bits .xor .u16 (a.getD i 0) (b.getD i 0)]) (by omega) (by simp [hx])
    rw [xorl_drop (by omega) (by omega)]
    rw [List.append_assoc, List.singleton_append] at e
    refine Ev.step (f := fun k => spec_l06Plus.l0 k a b (x ++ [Go.bits .xor .u16 (a.getD i 0) (b.getD i 0)]) ((i + 1 : Nat) : Int)) (fun k => ?_) e
    simp only [spec_l06Plus.l0]
    rw [if_pos (by omega), if_pos (by omega), if_pos (by omega), if_pos (by omega), rd_nat, rd_nat, w64s (by omega)]
theorem plus_same (a b : List Int) (ha : a.length ≤ 1048576) :
    ∃ K, ∃ r : List Int, ∃ c : Int, r.length ≤ 1048576 ∧ ∀ k, K ≤ k → spec_PlusWord.f k a b = some (r, c) ∧ impl_PlusWord.f k a b = some (r, c) := by
  unfold spec_PlusWord.f impl_PlusWord.f spec_l06Two.f impl_pairCode.f
  by_cases hl : (a.length : Int) = (b.length : Int)
  · by_cases h7 : (a.length : Int) > 7
    · exact ⟨0, [], 3, by simp, fun k _ => ⟨by rw [if_pos hl, if_pos h7]; rfl, by rw [if_pos hl, if_pos h7]; rfl⟩⟩
    · have hl' : a.length = b.length := by omega
      have e := splus_loop a b hl' ha a.length 0 [] (by omega) rfl
      rw [List.nil_append, List.drop_zero] at e
      obtain ⟨K1, h1⟩ := e
      obtain ⟨K2, h2⟩ := plus_ev a b hl' ha
      refine ⟨K1 + K2, xorl a b, 0, by rw [xorl_length hl']; omega, fun k hk => ⟨?_, ?_⟩⟩
      · rw [if_pos hl, if_neg h7]
        have h1' : spec_l06Plus.f k a b = some (xorl a b) := h1 k (by omega)
        simp only [Option.bind_some, if_true, h1']
      · rw [if_pos hl, if_neg h7]
        simp only [Option.bind_some, if_true, h2 k (by omega)]
  · exact ⟨0, [], 2, by simp, fun k _ => ⟨by rw [if_neg hl]; rfl, by rw [if_neg hl]; rfl⟩⟩
theorem FnExactPlusWord : laws_FnExactPlusWord.Pure := by
  intro a b _ _ wa _ _ wb
  by_cases ha : (a.length : Int) > 1048576
  · exact ⟨0, by unfold laws_FnExactPlusWord.f; rw [if_pos ha]⟩
  by_cases hb : (b.length : Int) > 1048576
  · exact ⟨0, by unfold laws_FnExactPlusWord.f; rw [if_neg ha, if_pos hb]⟩
  have hla : a.length ≤ 1048576 := by omega
  have hlb : b.length ≤ 1048576 := by omega
  obtain ⟨K1, h1⟩ := toWord_ev a hla
  obtain ⟨K2, h2⟩ := toWord_ev b hlb
  obtain ⟨K3, h3⟩ := eqWord_ev a hla
  obtain ⟨K4, h4⟩ := eqWord_ev b hlb
  obtain ⟨K5, r, c, hr, h5⟩ := plus_same a b hla
  obtain ⟨K6, h6⟩ := eqWord_ev r hr
  obtain ⟨K7, h7⟩ := markWord_ev a 1 (by omega) (by omega)
  obtain ⟨K8, h8⟩ := markWord_ev b (1 + (a.length : Int)) (by omega) (by omega)
  obtain ⟨K9, h9⟩ := markWord_ev r 1 (by omega) (by omega)
  obtain ⟨K10, h10⟩ := heldWord_ev r.length 1 (by omega) (by omega)
  obtain ⟨K, hK⟩ : ∃ K, K = K1 + K2 + K3 + K4 + K5 + K6 + K7 + K8 + K9 + K10 := ⟨_, rfl⟩
  have n1 : ¬ (1 + (a.length : Int) + (b.length : Int) < 0) := by omega
  have n2 : ¬ (1 + (r.length : Int) < 0) := by omega
  refine ⟨K + 3, ?_⟩
  unfold laws_FnExactPlusWord.f
  rw [if_neg ha, if_neg hb]
  simp only [Option.bind_some, h1 (K + 3) (by omega), h2 (K + 3) (by omega), (h5 (K + 3) (by omega)).1, (h5 (K + 3) (by omega)).2, h6 (K + 3) (by omega), if_true, bne_self_eq_false, laws_FnExactPlusWord.j0,
    h1 (K + 2) (by omega), h2 (K + 2) (by omega), h3 (K + 2) (by omega), h4 (K + 2) (by omega), h7 (K + 2) (by omega), h8 (K + 2) (by omega), n1, if_false, h6 (K + 2) (by omega), laws_FnExactPlusWord.j1,
    h9 (K + 1) (by omega), h10 (K + 1) (by omega), n2, h1 (K + 1) (by omega), h2 (K + 1) (by omega), (h5 (K + 1) (by omega)).2, h6 (K + 1) (by omega), laws_FnExactPlusWord.j2, h10 K (by omega), Bool.false_eq_true]

end Go.Proofs.Ytiigbilpoakgiaa.Pure
