/- The law FnExactRootsIn returns true for all arguments, as a statement on numbers and lists alone. -/
import Derived.Test.YtkmpdnnifohifaaRFnExactRootsInx3
import Derived.Test.YtkmpdnnifohifaaN1
namespace Go.Proofs.Ytkmpdnnifohifaa.Pure
open Go.RowKit Go.Proofs.Ytkmpdnnifohifaa.RFnExactRootsIn Go.Proofs.YtkmpdnnifohifaaW.PrintWords Go.Proofs.YtkmpdnnifohifaaW.PrintLast Go.Proofs.YtkmpdnnifohifaaW.PrintMore Go.Proofs.Ytkmpdnnifohifaa.NimF Go.Proofs.Ytkmpdnnifohifaa.NimGo Go.Proofs.Ytkmpdnnifohifaa.Given
theorem st {a b : Nat} (ha : a < 65536) (hb : b < 65536) : spec_l01Times.f (a : Int) (b : Int) = some ((nm 4 a b : Nat) : Int) := nimTimes_nat ha hb

theorem it {a b : Nat} (ha : a < 65536) (hb : b < 65536) : impl_times.f (a : Int) (b : Int) = some ((nm 4 a b : Nat) : Int) := nimTimes_nat ha hb

theorem toPoly_ev (l : List Int) (h : l.length ≤ 1048576) : ∃ K, ∀ k, K ≤ k → laws_toPoly.f k l = some l :=
  to_ev (fun _ _ => rfl) (fun _ _ _ _ => rfl) l (by omega)
theorem eqPoly_ev (l : List Int) (h : l.length ≤ 1048576) : ∃ K, ∀ k, K ≤ k → laws_eqPoly.f k l l = some true :=
  eq_refl_ev (fun _ _ _ => rfl) (fun _ _ _ _ => rfl) l (by omega)

theorem eqNimberS_ev (l : List Int) (h : l.length ≤ 1048576) : ∃ K, ∀ k, K ≤ k → laws_eqNimberS.f k l l = some true :=
  eq_refl_ev (fun _ _ _ => rfl) (fun _ _ _ _ => rfl) l (by omega)

theorem markNimberS_ev (l : List Int) (c : Int) (h0 : 0 ≤ c) (h : c + (l.length : Int) ≤ 4611686018427387900) : ∃ K, ∀ k, K ≤ k → laws_markNimberS.f k l c = some (c + (l.length : Int), marks .u16 c l.length) :=
  mark_ev (fun _ _ _ => rfl) (fun _ _ _ _ => rfl) l c h0 h
theorem heldNimberS_ev (n : Nat) (c : Int) (h0 : 0 ≤ c) (h : c + (n : Int) ≤ 4611686018427387900) : ∃ K, ∀ k, K ≤ k → laws_heldNimberS.f k (marks .u16 c n) c = some (c + (n : Int)) :=
  held_ev (fun _ _ _ => rfl) (fun _ _ _ _ => rfl) n c h0 h

theorem markPoly_ev (l : List Int) (c : Int) (h0 : 0 ≤ c) (h : c + (l.length : Int) ≤ 4611686018427387900) : ∃ K, ∀ k, K ≤ k → laws_markPoly.f k l c = some (c + (l.length : Int), marks .u16 c l.length) :=
  mark_ev (fun _ _ _ => rfl) (fun _ _ _ _ => rfl) l c h0 h

def vpoly (l : List Int) : Bool := l.length == 0 || (decide (l.length ≤ 21) && l.getD (l.length - 1) 0 != 0)
theorem last_rd (l : List Int) (h : l.length ≠ 0) (h2 : l.length ≤ 1048576) : wrap64 ((l.length : Int) - 1) = ((l.length - 1 : Nat) : Int) := by
  unfold wrap64; omega
theorem spec_ok (l : List Int) (h : l.length ≤ 1048576) : spec_l05Ok.f l = some (vpoly l) := by
  unfold spec_l05Ok.f vpoly
  by_cases h0 : l.length = 0
  · rw [if_pos (by omega), h0]; rfl
  · rw [if_neg (by omega)]
    have hb : (l.length == 0) = false := by simpa using h0
    by_cases h21 : l.length ≤ 21
    · rw [if_pos (by omega), last_rd l h0 h, if_pos (by omega), if_pos (by omega), rd_nat, hb, decide_eq_true h21]; rfl
    · rw [if_neg (by omega), hb, decide_eq_false h21]; rfl
theorem impl_ok (l : List Int) (h : l.length ≤ 1048576) : impl_ValidPoly.f l = some (vpoly l) := by
  unfold impl_ValidPoly.f vpoly
  by_cases h21 : l.length ≤ 21
  · rw [if_pos (by omega)]
    by_cases h0 : l.length = 0
    · rw [if_pos (by omega), h0]; rfl
    · have hb : (l.length == 0) = false := by simpa using h0
      rw [if_neg (by omega), last_rd l h0 h, if_pos (by omega), if_pos (by omega), rd_nat, hb, decide_eq_true h21]; rfl
  · have hb : (l.length == 0) = false := by simp; intro e; rw [e] at h21; exact h21 (by decide)
    rw [if_neg (by omega), hb, decide_eq_false h21]; rfl

theorem getD_nat {l : List Int} (h : ∀ x ∈ l, (Lit.int .u16 x).wf = true) {i : Nat} (hi : i < l.length) : ∃ v : Nat, l.getD i 0 = (v : Int) ∧ v < 65536 := by
  have e : l.getD i 0 = l[i] := by simp [List.getD, hi]
  obtain ⟨v, hv, lv⟩ := wf_u16 (h _ (List.getElem_mem hi))
  exact ⟨v, e.trans hv, lv⟩

theorem sin (a b c : Int) : spec_l00In.f a b c = some (decide (b ≤ a ∧ a ≤ c)) := by
  unfold spec_l00In.f
  by_cases h : a ≥ b
  · rw [if_pos h]; congr 1; rw [Bool.eq_iff_iff]; simp only [decide_eq_true_eq]; omega
  · rw [if_neg h]; congr 1; symm; exact decide_eq_false (by omega)
theorem iin (a b c : Int) : impl_within.f a b c = some (decide (b ≤ a ∧ a ≤ c)) := by
  unfold impl_within.f
  by_cases h : b ≤ a
  · rw [if_pos h]; congr 1; rw [Bool.eq_iff_iff]; simp only [decide_eq_true_eq]; omega
  · rw [if_neg h]; congr 1; symm; exact decide_eq_false (by omega)

theorem pat_both (l : List Int) (wl : ∀ x ∈ l, (Lit.int .u16 x).wf = true) (hl : l.length ≤ 1048576) (x : Nat) (hx : x < 65536) : ∀ (n s : Nat), n ≤ l.length → s < 65536 → ∃ v : Int,
    Ev (fun k => spec_l05At.l0 k l (x : Int) (s : Int) ((n : Int) - 1)) v ∧ Ev (fun k => impl_Poly_at.l0 k l (x : Int) (s : Int) ((n : Int) - 1)) v := by
  intro n
  induction n with
  | zero =>
    intro s _ _
    exact ⟨(s : Int), Ev.step (f := fun _ => some (s : Int)) (fun k => by simp only [spec_l05At.l0]; rw [if_neg (by omega)]) (Ev.now _),
      Ev.step (f := fun _ => some (s : Int)) (fun k => by simp only [impl_Poly_at.l0]; rw [if_neg (by omega)]) (Ev.now _)⟩
  | succ n ih =>
    intro s hn hs
    obtain ⟨v, hv, lv⟩ := getD_nat wl (show n < l.length by omega)
    obtain ⟨r, h1, h2⟩ := ih (nm 4 s x ^^^ v) (by omega) (Nat.xor_lt_two_pow (n := 16) (nm4_lt _ _) lv)
    have e : ((n + 1 : Nat) : Int) - 1 = (n : Int) := by omega
    have w : wrap64 ((n : Int) - 1) = (n : Int) - 1 := by unfold wrap64; omega
    refine ⟨r, Ev.step (f := fun k => spec_l05At.l0 k l (x : Int) ((nm 4 s x ^^^ v : Nat) : Int) ((n : Int) - 1)) (fun k => ?_) h1,
      Ev.step (f := fun k => impl_Poly_at.l0 k l (x : Int) ((nm 4 s x ^^^ v : Nat) : Int) ((n : Int) - 1)) (fun k => ?_) h2⟩
    · simp only [spec_l05At.l0]
      rw [e, if_pos (by omega), st hs hx, Option.bind_some, if_pos (by omega), if_pos (by omega), rd_nat, hv, xor16 (nm4_lt _ _) lv, w]
    · simp only [impl_Poly_at.l0]
      rw [e, if_pos (by omega), it hs hx, Option.bind_some, if_pos (by omega), if_pos (by omega), rd_nat, hv, xor16 (nm4_lt _ _) lv, w]
theorem pat_ev (l : List Int) (wl : ∀ x ∈ l, (Lit.int .u16 x).wf = true) (hl : l.length ≤ 1048576) (x : Nat) (hx : x < 65536) : ∃ K, ∃ v : Int, ∀ k, K ≤ k → spec_l05At.f k l (x : Int) = some v ∧ impl_Poly_at.f k l (x : Int) = some v := by
  obtain ⟨v, ⟨K1, h1⟩, ⟨K2, h2⟩⟩ := pat_both l wl hl x hx l.length 0 (Nat.le_refl _) (by omega)
  have w : wrap64 ((l.length : Int) - 1) = (l.length : Int) - 1 := by unfold wrap64; omega
  refine ⟨K1 + K2, v, fun k hk => ⟨?_, ?_⟩⟩
  · unfold spec_l05At.f; rw [w]; exact h1 k (by omega)
  · unfold impl_Poly_at.f; rw [w]; exact h2 k (by omega)

theorem rin_both (l : List Int) (wl : ∀ x ∈ l, (Lit.int .u16 x).wf = true) (hl : l.length ≤ 1048576) (size : Nat) (hs : size ≤ 256) : ∀ (d i : Nat) (x : List Int), i + d = size → x.length ≤ i → ∃ r : List Int, r.length ≤ 256 ∧
    Ev (fun k => spec_RootsIn.l0 k l x (size : Int) (i : Int)) (r, 0) ∧ Ev (fun k => impl_RootsIn.l0 k l x (size : Int) (i : Int)) (r, 0) := by
  intro d
  induction d with
  | zero =>
    intro i x hi hx
    exact ⟨x, by omega, Ev.step (f := fun _ => some (x, 0)) (fun k => by simp only [spec_RootsIn.l0]; rw [if_neg (by omega)]) (Ev.now _),
      Ev.step (f := fun _ => some (x, 0)) (fun k => by simp only [impl_RootsIn.l0]; rw [if_neg (by omega)]) (Ev.now _)⟩
  | succ d ih =>
    intro i x hi hx
    obtain ⟨K1, v, h1⟩ := pat_ev l wl hl i (by omega)
    have w1 : IntKind.u16.wrap (i : Int) = (i : Int) := wraps16n (by omega)
    have w2 : IntKind.u16.wrap ((i : Int) + 1) = ((i + 1 : Nat) : Int) := by rw [show (i : Int) + 1 = ((i + 1 : Nat) : Int) by omega, wraps16n (by omega)]
    by_cases hz : v = 0
    · obtain ⟨r, hr, ⟨K3, e1⟩, ⟨K4, e2⟩⟩ := ih (i + 1) (x ++ [(i : Int)]) (by omega) (by rw [List.length_append, List.length_singleton]; omega)
      refine ⟨r, hr, ⟨K1 + K3 + 1, fun k hk => ?_⟩, ⟨K1 + K4 + 1, fun k hk => ?_⟩⟩
      · obtain ⟨k, rfl⟩ : ∃ m, k = m + 1 := ⟨k - 1, by omega⟩
        simp only [spec_RootsIn.l0]
        rw [if_pos (by omega), w1, (h1 k (by omega)).1, Option.bind_some, if_pos hz, if_pos (by omega), w64s (by omega)]
        exact e1 k (by omega)
      · obtain ⟨k, rfl⟩ : ∃ m, k = m + 1 := ⟨k - 1, by omega⟩
        simp only [impl_RootsIn.l0]
        rw [if_pos (by omega), (h1 k (by omega)).2, Option.bind_some, if_pos hz, if_pos (by omega), w2]
        exact e2 k (by omega)
    · obtain ⟨r, hr, ⟨K3, e1⟩, ⟨K4, e2⟩⟩ := ih (i + 1) x (by omega) (by omega)
      refine ⟨r, hr, ⟨K1 + K3 + 1, fun k hk => ?_⟩, ⟨K1 + K4 + 1, fun k hk => ?_⟩⟩
      · obtain ⟨k, rfl⟩ : ∃ m, k = m + 1 := ⟨k - 1, by omega⟩
        simp only [spec_RootsIn.l0]
        rw [if_pos (by omega), w1, (h1 k (by omega)).1, Option.bind_some, if_neg hz, w64s (by omega)]
        exact e1 k (by omega)
      · obtain ⟨k, rfl⟩ : ∃ m, k = m + 1 := ⟨k - 1, by omega⟩
        simp only [impl_RootsIn.l0]
        rw [if_pos (by omega), (h1 k (by omega)).2, Option.bind_some, if_neg hz, w2]
        exact e2 k (by omega)
theorem sizes {a1 : Int} (h : 0 ≤ a1 ∧ a1 ≤ 3) : ∃ n : Nat, n ≤ 256 ∧ shl .i64 1 (shl .u64 1 (IntKind.u64.wrap a1)) = (n : Int) ∧ shl .u16 1 (shl .u64 1 a1) = (n : Int) ∧ 0 ≤ IntKind.u64.wrap a1 := by
  have : a1 = 0 ∨ a1 = 1 ∨ a1 = 2 ∨ a1 = 3 := by omega
  rcases this with rfl | rfl | rfl | rfl
  · exact ⟨2, by decide, by decide, by decide, by decide⟩
  · exact ⟨4, by decide, by decide, by decide, by decide⟩
  · exact ⟨16, by decide, by decide, by decide, by decide⟩
  · exact ⟨256, by decide, by decide, by decide, by decide⟩
theorem rin_same (l : List Int) (a1 : Int) (wl : ∀ x ∈ l, (Lit.int .u16 x).wf = true) (hl : l.length ≤ 1048576) : ∃ K, ∃ r : List Int, ∃ c : Int, r.length ≤ 1048576 ∧ ∀ k, K ≤ k → spec_RootsIn.f k l a1 = some (r, c) ∧ impl_RootsIn.f k l a1 = some (r, c) := by
  unfold spec_RootsIn.f impl_RootsIn.f
  simp only [spec_ok l hl, impl_ok l hl, sin, iin, Option.bind_some]
  by_cases hv : vpoly l = true
  · by_cases hi : 0 ≤ a1 ∧ a1 ≤ 3
    · by_cases h0 : (l.length : Int) = 0
      · exact ⟨0, [], 4, by simp, fun k hk => by simp only [hv, if_true, hi, and_self, decide_true, h0]⟩
      · obtain ⟨n, hn, e1, e2, e3⟩ := sizes hi
        obtain ⟨r, hr, ⟨K1, h1⟩, ⟨K2, h2⟩⟩ := rin_both l wl hl n hn n 0 [] (by omega) (by simp)
        refine ⟨K1 + K2, r, 0, by omega, fun k hk => ⟨?_, ?_⟩⟩
        · simp only [hv, if_true, hi, and_self, decide_true, h0, if_false, e1, e3]; exact h1 k (by omega)
        · simp only [hv, if_true, hi, and_self, decide_true, h0, if_false, e2]; exact h2 k (by omega)
    · exact ⟨0, [], 2, by simp, fun k hk => by simp only [hv, if_true, hi, decide_false, Bool.false_eq_true, if_false, and_self]⟩
  · exact ⟨0, [], 1, by simp, fun k hk => by simp only [hv, Bool.false_eq_true, if_false, and_self]⟩

theorem FnExactRootsIn : laws_FnExactRootsIn.Pure := by
  intro l a1 _ _ wl h1_
  by_cases hb : (l.length : Int) > 1048576
  · exact ⟨0, by unfold laws_FnExactRootsIn.f; rw [if_pos hb]⟩
  have hl : l.length ≤ 1048576 := by omega
  obtain ⟨K1, h1⟩ := toPoly_ev l hl
  obtain ⟨K3, h3⟩ := eqPoly_ev l hl
  obtain ⟨K5, r, c, hr, h5⟩ := rin_same l a1 wl hl
  obtain ⟨K6, h6⟩ := eqNimberS_ev r hr
  obtain ⟨K7, h7⟩ := markPoly_ev l 1 (by omega) (by omega)
  obtain ⟨K9, h9⟩ := markNimberS_ev r 1 (by omega) (by omega)
  obtain ⟨K10, h10⟩ := heldNimberS_ev r.length 1 (by omega) (by omega)
  obtain ⟨K, hK⟩ : ∃ K, K = K1 + K3 + K5 + K6 + K7 + K9 + K10 := ⟨_, rfl⟩
  have n1 : ¬ (1 + (l.length : Int) < 0) := by omega
  have n2 : ¬ (1 + (r.length : Int) < 0) := by omega
  refine ⟨K + 3, ?_⟩
  unfold laws_FnExactRootsIn.f
  rw [if_neg hb]
  simp only [Option.bind_some, h1 (K + 3) (by omega), (h5 (K + 3) (by omega)).1, (h5 (K + 3) (by omega)).2, h6 (K + 3) (by omega), if_true, bne_self_eq_false, laws_FnExactRootsIn.j0,
    h1 (K + 2) (by omega), h3 (K + 2) (by omega), h7 (K + 2) (by omega), n1, if_false, h6 (K + 2) (by omega), laws_FnExactRootsIn.j1,
    h9 (K + 1) (by omega), h10 (K + 1) (by omega), n2, h1 (K + 1) (by omega), (h5 (K + 1) (by omega)).2, h6 (K + 1) (by omega), laws_FnExactRootsIn.j2, h10 K (by omega), Bool.false_eq_true]

end Go.Proofs.Ytkmpdnnifohifaa.Pure
