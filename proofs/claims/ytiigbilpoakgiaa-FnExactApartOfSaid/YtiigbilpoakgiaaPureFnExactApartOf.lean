/- The law FnExactApartOf returns true for all arguments, as a statement on numbers and lists alone. -/
import Derived.Test.YtiigbilpoakgiaaPFnExactApartOfx2
import Derived.Test.YtiigbilpoakgiaaN1
namespace Go.Proofs.Ytiigbilpoakgiaa.Pure
open Go.RowKit Go.Proofs.Ytiigbilpoakgiaa.PFnExactApartOf Go.Proofs.YtiigbilpoakgiaaW.PrintWords Go.Proofs.YtiigbilpoakgiaaW.PrintLast Go.Proofs.YtiigbilpoakgiaaW.PrintMore Go.Proofs.Ytiigbilpoakgiaa.NimF Go.Proofs.Ytiigbilpoakgiaa.NimGo
theorem toWord_ev (l : List Int) (h : l.length ≤ 1048576) : ∃ K, ∀ k, K ≤ k → laws_toWord.f k l = some l :=
  to_ev (fun _ _ => rfl) (fun _ _ _ _ => rfl) l (by omega)
theorem eqWord_ev (l : List Int) (h : l.length ≤ 1048576) : ∃ K, ∀ k, K ≤ k → laws_eqWord.f k l l = some true :=
  eq_refl_ev (fun _ _ _ => rfl) (fun _ _ _ _ => rfl) l (by omega)

def weight (l : List Int) : Nat := l.countP (fun x => x != 0)
theorem weight_zero {x : Int} (l : List Int) (h : x = 0) : weight (x :: l) = weight l := by unfold weight; rw [List.countP_cons]; simp [h]
theorem weight_one {x : Int} (l : List Int) (h : ¬ x = 0) : weight (x :: l) = weight l + 1 := by unfold weight; rw [List.countP_cons]; simp [h]
theorem weight_le (l : List Int) : weight l ≤ l.length := List.countP_le_length
theorem impl_weight_loop (l : List Int) (h : l.length ≤ 1048576) : ∀ d i (n : Nat), i + d = l.length → n ≤ i → Ev (fun k => impl_WeightOf.l0 k (n : Int) l (l.length : Int) (i : Int)) ((n + weight (l.drop i) : Nat) : Int) := by
  intro d
  induction d with
  | zero =>
    intro i n hi hn
    rw [List.drop_eq_nil_of_le (by omega)]
    exact Ev.step (f := fun _ => some (n : Int)) (fun k => by simp only [impl_WeightOf.l0]; rw [if_neg (by omega)]) (Ev.now _)
  | succ d ih =>
    intro i n hi hn
    have hd : l.drop i = l[i] :: l.drop (i + 1) := List.drop_eq_getElem_cons (by omega)
    have he : l.getD i 0 = l[i] := by simp [List.getD, show i < l.length by omega]
    by_cases hz : l[i] = 0
    · have hw : weight (l.drop i) = weight (l.drop (i + 1)) := by rw [hd, weight_zero _ hz]
      rw [hw]
      refine Ev.step (f := fun k => impl_WeightOf.l0 k (n : Int) l (l.length : Int) ((i + 1 : Nat) : Int)) (fun k => ?_) (ih (i + 1) n (by omega) (by omega))
      simp only [impl_WeightOf.l0]
      rw [if_pos (by omega), if_pos (by omega), if_pos (by omega), rd_nat, he, if_pos hz, w64s (by omega)]
    · have hw : n + weight (l.drop i) = n + 1 + weight (l.drop (i + 1)) := by rw [hd, weight_one _ hz]; omega
      rw [hw]
      refine Ev.step (f := fun k => impl_WeightOf.l0 k ((n + 1 : Nat) : Int) l (l.length : Int) ((i + 1 : Nat) : Int)) (fun k => ?_) (ih (i + 1) (n + 1) (by omega) (by omega))
      simp only [impl_WeightOf.l0]
      rw [if_pos (by omega), if_pos (by omega), if_pos (by omega), rd_nat, he, if_neg hz, w64s (by omega), w64s (by omega)]
theorem impl_weight (l : List Int) (h : l.length ≤ 1048576) : ∃ K, ∀ k, K ≤ k → impl_WeightOf.f k l = some ((weight l : Nat) : Int) := by
  have e := impl_weight_loop l h l.length 0 0 (by omega) (by omega)
  rw [Nat.zero_add, List.drop_zero] at e
  exact e

def xorl (a b : List Int) : List Int := List.zipWith (fun x y => Go.bits .xor .u16 x y) a b
theorem xorl_length {a b : List Int} (h : a.length = b.length) : (xorl a b).length = a.length := by
  unfold xorl; rw [List.length_zipWith]; omega
theorem xorl_drop {a b : List Int} {i : Nat} (ha : i < a.length) (hb : i < b.length) : (xorl a b).drop i = Go.bits .xor .u16 (a.getD i 0) (b.getD i 0) :: (xorl a b).drop (i + 1) := by
  have h : i < (xorl a b).length := by unfold xorl; rw [List.length_zipWith]; omega
  rw [List.drop_eq_getElem_cons h]
  congr 1
  simp [xorl, List.getD, ha, hb]
theorem plus_loop (a b : List Int) (hl : a.length = b.length) (h7 : a.length ≤ 1048576) : ∀ (d i : Nat) (x : List Int), i + d = a.length → x.length = i → Ev (fun k => impl_Word_plus.l0 k b x a (a.length : Int) (i : Int)) (x ++ (xorl a b).drop i) := by
  intro d
  induction d with
  | zero =>
    intro i x hi hx
    rw [List.drop_eq_nil_of_le (by rw [xorl_length hl]; omega), List.append_nil]
    exact Ev.step (f := fun _ => some x) (fun k => by simp only [impl_Word_plus.l0]; rw [if_neg (by omega)]) (Ev.now _)
  | succ d ih =>
    intro i x hi hx
    have e := ih (i + 1) (x ++ [Go.bits .xor .u16 (a.getD i 0) (b.getD i 0)]) (by omega) (by simp [hx])
    rw [xorl_drop (by omega) (by omega)]
    rw [List.append_assoc, List.singleton_append] at e
    refine Ev.step (f := fun k => impl_Word_plus.l0 k b (x ++ [Go.bits .xor .u16 (a.getD i 0) (b.getD i 0)]) a (a.length : Int) ((i + 1 : Nat) : Int)) (fun k => ?_) e
    simp only [impl_Word_plus.l0]
    rw [if_pos (by omega), if_pos (by omega), if_pos (by omega), if_pos (by omega), if_pos (by omega), rd_nat, rd_nat, w64s (by omega)]
theorem plus_ev (a b : List Int) (hl : a.length = b.length) (h7 : a.length ≤ 1048576) : ∃ K, ∀ k, K ≤ k → impl_Word_plus.f k a b = some (xorl a b) := by
  have e := plus_loop a b hl h7 a.length 0 [] (by omega) rfl
  rw [List.nil_append, List.drop_zero] at e
  exact e

theorem xor_zero_iff {x y : Int} (hx : (Lit.int .u16 x).wf = true) (hy : (Lit.int .u16 y).wf = true) : Go.bits .xor .u16 x y = 0 ↔ x = y := by
  obtain ⟨a, rfl, ha⟩ := wf_u16 hx
  obtain ⟨b, rfl, hb⟩ := wf_u16 hy
  rw [xor16 ha hb]
  constructor
  · intro h
    have : a ^^^ b = 0 := by omega
    rw [xor_eq_zero this]
  · intro h
    have : a = b := by omega
    rw [this, Nat.xor_self]; rfl
theorem getD_wf {l : List Int} (h : ∀ x ∈ l, (Lit.int .u16 x).wf = true) {i : Nat} (hi : i < l.length) : (Lit.int .u16 (l.getD i 0)).wf = true := by
  have e : l.getD i 0 = l[i] := by simp [List.getD, hi]
  rw [e]; exact h _ (List.getElem_mem hi)
theorem apart_loop (a b : List Int) (wa : ∀ x ∈ a, (Lit.int .u16 x).wf = true) (wb : ∀ x ∈ b, (Lit.int .u16 x).wf = true) (hl : a.length = b.length) (h7 : a.length ≤ 1048576) :
    ∀ (d i n : Nat), i + d = a.length → n ≤ i → Ev (fun k => spec_l06Apart.l0 k a b (n : Int) (i : Int)) ((n + weight ((xorl a b).drop i) : Nat) : Int) := by
  intro d
  induction d with
  | zero =>
    intro i n hi hn
    rw [List.drop_eq_nil_of_le (by rw [xorl_length hl]; omega)]
    exact Ev.step (f := fun _ => some (n : Int)) (fun k => by simp only [spec_l06Apart.l0]; rw [if_neg (by omega)]) (Ev.now _)
  | succ d ih =>
    intro i n hi hn
    have hz := xor_zero_iff (getD_wf wa (show i < a.length by omega)) (getD_wf wb (show i < b.length by omega))
    by_cases hv : a.getD i 0 = b.getD i 0
    · have hw : n + weight ((xorl a b).drop i) = n + weight ((xorl a b).drop (i + 1)) := by rw [xorl_drop (by omega) (by omega), weight_zero _ (hz.2 hv)]
      rw [hw]
      refine Ev.step (f := fun k => spec_l06Apart.l0 k a b (n : Int) ((i + 1 : Nat) : Int)) (fun k => ?_) (ih (i + 1) n (by omega) (by omega))
      simp only [spec_l06Apart.l0]
      rw [if_pos (by omega), if_pos (by omega), if_pos (by omega), rd_nat, rd_nat, if_pos hv, w64s (by omega)]
    · have hw : n + weight ((xorl a b).drop i) = n + 1 + weight ((xorl a b).drop (i + 1)) := by rw [xorl_drop (by omega) (by omega), weight_one _ (fun e => hv (hz.1 e))]; omega
      rw [hw]
      refine Ev.step (f := fun k => spec_l06Apart.l0 k a b ((n + 1 : Nat) : Int) ((i + 1 : Nat) : Int)) (fun k => ?_) (ih (i + 1) (n + 1) (by omega) (by omega))
      simp only [spec_l06Apart.l0]
      rw [if_pos (by omega), if_pos (by omega), if_pos (by omega), rd_nat, rd_nat, if_neg hv, w64s (by omega), w64s (by omega)]
theorem apart_same (a b : List Int) (wa : ∀ x ∈ a, (Lit.int .u16 x).wf = true) (wb : ∀ x ∈ b, (Lit.int .u16 x).wf = true) (ha : a.length ≤ 1048576) :
    ∃ K, ∃ r : Int × Int, ∀ k, K ≤ k → spec_ApartOf.f k a b = some r ∧ impl_ApartOf.f k a b = some r := by
  unfold spec_ApartOf.f impl_ApartOf.f spec_l06Two.f impl_pairCode.f
  by_cases hl : (a.length : Int) = (b.length : Int)
  · by_cases h7 : (a.length : Int) > 7
    · exact ⟨0, _, fun k _ => ⟨by rw [if_pos hl, if_pos h7]; rfl, by rw [if_pos hl, if_pos h7]; rfl⟩⟩
    · have hl' : a.length = b.length := by omega
      have e := apart_loop a b wa wb hl' ha a.length 0 0 (by omega) (by omega)
      rw [Nat.zero_add, List.drop_zero] at e
      obtain ⟨K1, h1⟩ := e
      obtain ⟨K2, h2⟩ := plus_ev a b hl' ha
      obtain ⟨K3, h3⟩ := impl_weight (xorl a b) (by rw [xorl_length hl']; omega)
      refine ⟨K1 + K2 + K3, (((weight (xorl a b) : Nat) : Int), 0), fun k hk => ⟨?_, ?_⟩⟩
      · rw [if_pos hl, if_neg h7]
        have h1' : spec_l06Apart.f k a b = some ((weight (xorl a b) : Nat) : Int) := h1 k (by omega)
        simp only [Option.bind_some, if_true, h1']
      · rw [if_pos hl, if_neg h7]
        unfold impl_Word_apart.f
        simp only [Option.bind_some, if_true, h2 k (by omega), h3 k (by omega)]
  · exact ⟨0, _, fun k _ => ⟨by rw [if_neg hl]; rfl, by rw [if_neg hl]; rfl⟩⟩
theorem FnExactApartOf : laws_FnExactApartOf.Pure := by
  intro a b _ _ wa _ _ wb
  by_cases ha : (a.length : Int) > 1048576
  · exact ⟨0, by unfold laws_FnExactApartOf.f; rw [if_pos ha]⟩
  by_cases hb : (b.length : Int) > 1048576
  · exact ⟨0, by unfold laws_FnExactApartOf.f; rw [if_neg ha, if_pos hb]⟩
  have hla : a.length ≤ 1048576 := by omega
  have hlb : b.length ≤ 1048576 := by omega
  obtain ⟨K1, h1⟩ := toWord_ev a hla
  obtain ⟨K2, h2⟩ := toWord_ev b hlb
  obtain ⟨K3, h3⟩ := eqWord_ev a hla
  obtain ⟨K4, h4⟩ := eqWord_ev b hlb
  obtain ⟨K5, r, h5⟩ := apart_same a b wa wb hla
  obtain ⟨K, hK⟩ : ∃ K, K = K1 + K2 + K3 + K4 + K5 := ⟨_, rfl⟩
  refine ⟨K + 1, ?_⟩
  unfold laws_FnExactApartOf.f
  rw [if_neg ha, if_neg hb]
  simp only [Option.bind_some, h1 (K + 1) (by omega), h2 (K + 1) (by omega), (h5 (K + 1) (by omega)).1, (h5 (K + 1) (by omega)).2, if_true, bne_self_eq_false, laws_FnExactApartOf.j0, h1 K (by omega), h2 K (by omega), h3 K (by omega), h4 K (by omega)]
  rfl

end Go.Proofs.Ytiigbilpoakgiaa.Pure
