/- The law FnExactSlopeOf returns true for all arguments, as a statement on numbers and lists alone. -/
import Derived.Test.YtkmpdnnifohifaaRFnExactSlopeOfx3
import Derived.Test.YtkmpdnnifohifaaN1
namespace Go.Proofs.Ytkmpdnnifohifaa.Pure
open Go.RowKit Go.Proofs.Ytkmpdnnifohifaa.RFnExactSlopeOf Go.Proofs.YtkmpdnnifohifaaW.PrintWords Go.Proofs.YtkmpdnnifohifaaW.PrintLast Go.Proofs.YtkmpdnnifohifaaW.PrintMore Go.Proofs.Ytkmpdnnifohifaa.NimF Go.Proofs.Ytkmpdnnifohifaa.NimGo Go.Proofs.Ytkmpdnnifohifaa.Given
theorem toPoly_ev (l : List Int) (h : l.length ≤ 1048576) : ∃ K, ∀ k, K ≤ k → laws_toPoly.f k l = some l :=
  to_ev (fun _ _ => rfl) (fun _ _ _ _ => rfl) l (by omega)
theorem eqPoly_ev (l : List Int) (h : l.length ≤ 1048576) : ∃ K, ∀ k, K ≤ k → laws_eqPoly.f k l l = some true :=
  eq_refl_ev (fun _ _ _ => rfl) (fun _ _ _ _ => rfl) l (by omega)

theorem markPoly_ev (l : List Int) (c : Int) (h0 : 0 ≤ c) (h : c + (l.length : Int) ≤ 4611686018427387900) : ∃ K, ∀ k, K ≤ k → laws_markPoly.f k l c = some (c + (l.length : Int), marks .u16 c l.length) :=
  mark_ev (fun _ _ _ => rfl) (fun _ _ _ _ => rfl) l c h0 h
theorem heldPoly_ev (n : Nat) (c : Int) (h0 : 0 ≤ c) (h : c + (n : Int) ≤ 4611686018427387900) : ∃ K, ∀ k, K ≤ k → laws_heldPoly.f k (marks .u16 c n) c = some (c + (n : Int)) :=
  held_ev (fun _ _ _ => rfl) (fun _ _ _ _ => rfl) n c h0 h

def vpoly (l : List Int) : Bool := l.length == 0 || (decide (l.length ≤ 21) && l.getD (l.length - 1) 0 != 0)
theorem last_rd (l : List Int) (h : l.length ≠ 0) (h2 : l.length ≤ 1048576) : wrap64 ((l.length : Int) - 1) = ((l.length - 1 : Nat) : Int) := by
  unfold wrap64; omega
theorem spec_ok (l : List Int) (h : l.length ≤ 1048576) : spec_l05Ok.f l = some (vpoly l) := by
  unfold spec_l05Ok.f vpoly
  by_cases h0 : l.length = 0
  · rw [if_pos (by omega), h0]; rfl
  · rw [if_neg (by omega)]
    have hb : (l.length == 0) = false := by simpa using h0
    by_cases h21 : l.length ≤ 21
    · rw [if_pos (by omega), last_rd l h0 h, if_pos (by omega), if_pos (by omega), rd_nat, hb, decide_eq_true h21]; rfl
    · rw [if_neg (by omega), hb, decide_eq_false h21]; rfl
theorem impl_ok (l : List Int) (h : l.length ≤ 1048576) : impl_ValidPoly.f l = some (vpoly l) := by
  unfold impl_ValidPoly.f vpoly
  by_cases h21 : l.length ≤ 21
  · rw [if_pos (by omega)]
    by_cases h0 : l.length = 0
    · rw [if_pos (by omega), h0]; rfl
    · have hb : (l.length == 0) = false := by simpa using h0
      rw [if_neg (by omega), last_rd l h0 h, if_pos (by omega), if_pos (by omega), rd_nat, hb, decide_eq_true h21]; rfl
  · have hb : (l.length == 0) = false := by simp; intro e; rw [e] at h21; exact h21 (by decide)
    rw [if_neg (by omega), hb, decide_eq_false h21]; rfl

theorem strim_loop (l : List Int) (hl : l.length ≤ 2097152) : ∀ n, n ≤ l.length → Ev (fun k => spec_l05Trim.l0 k l (n : Int)) (l.take (trimN l n)) := by
  intro n
  induction n with
  | zero =>
    intro _
    refine Ev.step (f := fun _ => some []) (fun k => ?_) (Ev.now _)
    simp only [spec_l05Trim.l0]
    rw [if_neg (by omega), Option.bind_some, if_pos (by omega), if_pos (by omega), if_pos (by simp)]
    simp
  | succ n ih =>
    intro hn
    have w : wrap64 (((n + 1 : Nat) : Int) - 1) = (n : Int) := by unfold wrap64; omega
    rw [trimN_succ]
    by_cases hz : l.getD n 0 = 0
    · rw [if_pos hz]
      refine Ev.step (f := fun k => spec_l05Trim.l0 k l (n : Int)) (fun k => ?_) (ih (by omega))
      simp only [spec_l05Trim.l0]
      rw [if_pos (by omega), w, if_pos (by omega), if_pos (by omega), rd_nat, if_pos hz]
    · rw [if_neg hz]
      refine Ev.step (f := fun _ => some (l.take (n + 1))) (fun k => ?_) (Ev.now _)
      simp only [spec_l05Trim.l0]
      rw [if_pos (by omega), w, if_pos (by omega), if_pos (by omega), rd_nat, if_neg hz, Option.bind_some, if_pos (by omega), if_pos (by omega), if_pos (by rw [Int.toNat_natCast, List.length_take]; simp only [List.length_nil]; omega), Int.toNat_natCast]
      rfl
theorem strim_ev (l : List Int) (hl : l.length ≤ 2097152) : ∃ K, ∀ k, K ≤ k → spec_l05Trim.f k l = some (trimL l) := strim_loop l hl l.length (Nat.le_refl _)

theorem itrim (l : List Int) (hl : l.length ≤ 2097152) : impl_trim.f l = some (trimL l) := by
  unfold impl_trim.f cloneL
  rw [if_pos (by rw [trimL_length]; have := trimN_le l l.length; omega)]

/-- every other number, from the second on -/
def slopeN (l : List Int) (n : Nat) : List Int := (List.range n).map fun (i : Nat) => if i % 2 = 0 then l.getD (i + 1) 0 else 0
theorem slopeN_length (l : List Int) (n : Nat) : (slopeN l n).length = n := by simp [slopeN]
theorem slopeN_get {l : List Int} {n i : Nat} (h : i < n) : (slopeN l n)[i]? = some (if i % 2 = 0 then l.getD (i + 1) 0 else 0) := by simp [slopeN, h]
theorem slopeN_succ (l : List Int) (n : Nat) : slopeN l (n + 1) = slopeN l n ++ [if n % 2 = 0 then l.getD (n + 1) 0 else 0] := by simp [slopeN, List.range_succ]
theorem sslope (l : List Int) (hl : l.length ≤ 1048576) (r : List Int) (hr : Ev (fun k => (spec_l05Trim.f k (slopeN l (l.length - 1))).bind fun t => some t) r) : ∀ (d i : Nat), i + 1 + d = l.length → Ev (fun k => spec_l05Slope.l0 k l (slopeN l i) ((i + 1 : Nat) : Int)) r := by
  intro d
  induction d with
  | zero =>
    intro i hi
    have : i = l.length - 1 := by omega
    subst this
    refine Ev.step (fun k => ?_) hr
    simp only [spec_l05Slope.l0]
    rw [if_neg (by omega)]
  | succ d ih =>
    intro i hi
    have hm : Int.tmod ((i + 1 : Nat) : Int) 2 = (((i + 1) % 2 : Nat) : Int) := rfl
    have e := ih (i + 1) (by omega)
    rw [slopeN_succ] at e
    by_cases h2 : i % 2 = 0
    · rw [if_pos h2] at e
      refine Ev.step (f := fun k => spec_l05Slope.l0 k l (slopeN l i ++ [l.getD (i + 1) 0]) ((i + 1 + 1 : Nat) : Int)) (fun k => ?_) e
      simp only [spec_l05Slope.l0]
      rw [if_pos (by omega), hm, if_pos (by omega), if_pos (by omega), if_pos (by rw [slopeN_length]; omega), rd_nat, w64s (by omega)]
    · rw [if_neg h2] at e
      refine Ev.step (f := fun k => spec_l05Slope.l0 k l (slopeN l i ++ [0]) ((i + 1 + 1 : Nat) : Int)) (fun k => ?_) e
      simp only [spec_l05Slope.l0]
      rw [if_pos (by omega), hm, if_neg (by omega), if_pos (by rw [slopeN_length]; omega), w64s (by omega)]
theorem islope (l : List Int) (hl : l.length ≤ 1048576) (n : Nat) (hn : n + 1 = l.length) (r : List Int) (hr : Ev (fun _ => (impl_trim.f (slopeN l n)).bind fun t => some t) r) : ∀ (d i : Nat) (x : List Int), n ≤ 2 * i + 2 * d → x.length = n → (∀ j, j < 2 * i → j < n → x[j]? = (slopeN l n)[j]?) → (∀ j, 2 * i ≤ j → j < n → x[j]? = some 0) →
    Ev (fun k => impl_Poly_slope.l0 k l x ((2 * i : Nat) : Int)) r := by
  intro d
  induction d with
  | zero =>
    intro i x hi hx ha _
    have e : x = slopeN l n := by
      apply List.ext_getElem?
      intro j
      by_cases hj : j < n
      · exact ha j (by omega) hj
      · rw [List.getElem?_eq_none (by omega), List.getElem?_eq_none (by rw [slopeN_length]; omega)]
    subst e
    refine Ev.step (fun k => ?_) hr
    simp only [impl_Poly_slope.l0]
    rw [if_neg (by rw [slopeN_length]; omega)]
  | succ d ih =>
    intro i x hi hx ha hz
    by_cases hlt : 2 * i < n
    · have e := ih (i + 1) (x.set (2 * i) (l.getD (2 * i + 1) 0)) (by omega) (by rw [List.length_set]; exact hx)
        (by
          intro j hj hjn
          rw [List.getElem?_set]
          by_cases h1 : 2 * i = j
          · subst h1
            rw [if_pos rfl, if_pos (by omega), slopeN_get hjn, if_pos (by omega)]
          · rw [if_neg h1]
            by_cases h2 : j < 2 * i
            · exact ha j h2 hjn
            · rw [hz j (by omega) hjn, slopeN_get hjn, if_neg (by omega)])
        (by
          intro j hj hjn
          rw [List.getElem?_set, if_neg (by omega)]
          exact hz j (by omega) hjn)
      have w1 : wrap64 (((2 * i : Nat) : Int) + 1) = ((2 * i + 1 : Nat) : Int) := by unfold wrap64; omega
      have w2 : wrap64 (((2 * i : Nat) : Int) + 2) = ((2 * (i + 1) : Nat) : Int) := by unfold wrap64; omega
      refine Ev.step (f := fun k => impl_Poly_slope.l0 k l (x.set (2 * i) (l.getD (2 * i + 1) 0)) ((2 * (i + 1) : Nat) : Int)) (fun k => ?_) e
      simp only [impl_Poly_slope.l0]
      rw [if_pos (by omega), w1, if_pos (by omega), if_pos (by omega), if_pos (by omega), rd_nat, w2, Int.toNat_natCast]
    · have e : x = slopeN l n := by
        apply List.ext_getElem?
        intro j
        by_cases hj : j < n
        · exact ha j (by omega) hj
        · rw [List.getElem?_eq_none (by omega), List.getElem?_eq_none (by rw [slopeN_length]; omega)]
      subst e
      refine Ev.step (fun k => ?_) hr
      simp only [impl_Poly_slope.l0]
      rw [if_neg (by rw [slopeN_length]; omega)]
theorem slope_same (l : List Int) (hl : l.length ≤ 1048576) : ∃ K, ∃ r : List Int, ∃ c : Int, r.length ≤ 1048576 ∧ ∀ k, K ≤ k → spec_SlopeOf.f k l = some (r, c) ∧ impl_SlopeOf.f k l = some (r, c) := by
  unfold spec_SlopeOf.f impl_SlopeOf.f
  simp only [spec_ok l hl, impl_ok l hl, Option.bind_some]
  by_cases hv : vpoly l = true
  · obtain ⟨r, hr, K1, h1, K2, h2⟩ : ∃ r : List Int, r.length ≤ 1048576 ∧ ∃ K1, (∀ k, K1 ≤ k → spec_l05Slope.f k l = some r) ∧ ∃ K2, ∀ k, K2 ≤ k → impl_Poly_slope.f k l = some r := by
      have w : wrap64 ((l.length : Int) - 1) = (l.length : Int) - 1 := by unfold wrap64; omega
      by_cases h0 : l.length = 0
      · have : l = [] := List.eq_nil_of_length_eq_zero h0
        subst this
        obtain ⟨K, h⟩ := strim_ev [] (by simp)
        refine ⟨[], by simp, K + 1, fun k hk => ?_, 1, fun k hk => ?_⟩
        · obtain ⟨k, rfl⟩ : ∃ m, k = m + 1 := ⟨k - 1, by omega⟩
          unfold spec_l05Slope.f
          simp only [spec_l05Slope.l0]
          rw [if_neg (by simp), h k (by omega)]
          rfl
        · obtain ⟨k, rfl⟩ : ∃ m, k = m + 1 := ⟨k - 1, by omega⟩
          have hm : mx (wrap64 ((([] : List Int).length : Int) - 1)) 0 = 0 := by rw [w]; unfold mx; simp
          unfold impl_Poly_slope.f
          rw [hm, if_pos (by omega), if_pos (by simp)]
          simp only [impl_Poly_slope.l0]
          rw [if_neg (by simp)]
          rfl
      · obtain ⟨n, hn⟩ : ∃ n, n + 1 = l.length := ⟨l.length - 1, by omega⟩
        have hn1 : l.length - 1 = n := by omega
        have hls := slopeN_length l n
        have hle : (trimL (slopeN l n)).length ≤ n := by rw [trimL_length]; have := trimN_le (slopeN l n) (slopeN l n).length; omega
        obtain ⟨K0, h0'⟩ := strim_ev (slopeN l n) (by omega)
        obtain ⟨K1, h1⟩ := sslope l hl (trimL (slopeN l n)) ⟨K0, fun k hk => by show (spec_l05Trim.f k (slopeN l (l.length - 1))).bind _ = _; rw [hn1, h0' k hk]; rfl⟩ (l.length - 1) 0 (by omega)
        obtain ⟨K2, h2⟩ := islope l hl n hn (trimL (slopeN l n)) ⟨0, fun k hk => by rw [itrim _ (by omega)]; rfl⟩ n 0 (List.replicate n 0) (by omega) (by simp) (fun j hj => absurd hj (by omega)) (fun j _ hj => by simp [List.getElem?_replicate, hj])
        refine ⟨trimL (slopeN l n), by omega, K1, h1, K2, fun k hk => ?_⟩
        have hm : mx (wrap64 ((l.length : Int) - 1)) 0 = (n : Int) := by rw [w]; unfold mx; split <;> omega
        unfold impl_Poly_slope.f
        rw [hm, if_pos (by omega), if_pos (by rw [Int.toNat_natCast]; omega), Int.toNat_natCast]
        exact h2 k hk
    refine ⟨K1 + K2, r, 0, hr, fun k hk => ⟨?_, ?_⟩⟩
    · simp only [hv, if_true, h1 k (by omega), Option.bind_some]
    · simp only [hv, if_true, h2 k (by omega), Option.bind_some]
  · exact ⟨0, [], 1, by simp, fun k hk => by simp only [hv, Bool.false_eq_true, if_false, and_self]⟩

theorem FnExactSlopeOf : laws_FnExactSlopeOf.Pure := by
  intro l _ _ wl
  by_cases hb : (l.length : Int) > 1048576
  · exact ⟨0, by unfold laws_FnExactSlopeOf.f; rw [if_pos hb]⟩
  have hl : l.length ≤ 1048576 := by omega
  obtain ⟨K1, h1⟩ := toPoly_ev l hl
  obtain ⟨K3, h3⟩ := eqPoly_ev l hl
  obtain ⟨K5, r, c, hr, h5⟩ := slope_same l hl
  obtain ⟨K6, h6⟩ := eqPoly_ev r hr
  obtain ⟨K7, h7⟩ := markPoly_ev l 1 (by omega) (by omega)
  obtain ⟨K9, h9⟩ := markPoly_ev r 1 (by omega) (by omega)
  obtain ⟨K10, h10⟩ := heldPoly_ev r.length 1 (by omega) (by omega)
  obtain ⟨K, hK⟩ : ∃ K, K = K1 + K3 + K5 + K6 + K7 + K9 + K10 := ⟨_, rfl⟩
  have n1 : ¬ (1 + (l.length : Int) < 0) := by omega
  have n2 : ¬ (1 + (r.length : Int) < 0) := by omega
  refine ⟨K + 3, ?_⟩
  unfold laws_FnExactSlopeOf.f
  rw [if_neg hb]
  simp only [Option.bind_some, h1 (K + 3) (by omega), (h5 (K + 3) (by omega)).1, (h5 (K + 3) (by omega)).2, h6 (K + 3) (by omega), if_true, bne_self_eq_false, laws_FnExactSlopeOf.j0,
    h1 (K + 2) (by omega), h3 (K + 2) (by omega), h7 (K + 2) (by omega), n1, if_false, h6 (K + 2) (by omega), laws_FnExactSlopeOf.j1,
    h9 (K + 1) (by omega), h10 (K + 1) (by omega), n2, h1 (K + 1) (by omega), (h5 (K + 1) (by omega)).2, h6 (K + 1) (by omega), laws_FnExactSlopeOf.j2, h10 K (by omega), Bool.false_eq_true]

end Go.Proofs.Ytkmpdnnifohifaa.Pure
