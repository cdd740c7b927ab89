/- The law FnExactRootOfPoly returns true for all arguments, as a statement on numbers and lists alone. -/
import Derived.Test.YtkmpdnnifohifaaRFnExactRootOfPolyx3
import Derived.Test.YtkmpdnnifohifaaN1
namespace Go.Proofs.Ytkmpdnnifohifaa.Pure
open Go.RowKit Go.Proofs.Ytkmpdnnifohifaa.RFnExactRootOfPoly Go.Proofs.YtkmpdnnifohifaaW.PrintWords Go.Proofs.YtkmpdnnifohifaaW.PrintLast Go.Proofs.YtkmpdnnifohifaaW.PrintMore Go.Proofs.Ytkmpdnnifohifaa.NimF Go.Proofs.Ytkmpdnnifohifaa.NimGo Go.Proofs.Ytkmpdnnifohifaa.Given
theorem st {a b : Nat} (ha : a < 65536) (hb : b < 65536) : spec_l01Times.f (a : Int) (b : Int) = some ((nm 4 a b : Nat) : Int) := nimTimes_nat ha hb

theorem it {a b : Nat} (ha : a < 65536) (hb : b < 65536) : impl_times.f (a : Int) (b : Int) = some ((nm 4 a b : Nat) : Int) := nimTimes_nat ha hb

theorem spow_ev : ∀ (N n : Nat), n ≤ N → n < 4611686018427387904 → ∀ (a o : Nat), a < 65536 → o < 65536 → Ev (fun k => spec_l01Power.l0 k (a : Int) (n : Int) (o : Int)) ((nm 4 o (npow a n) : Nat) : Int) := by
  intro N
  induction N with
  | zero =>
    intro n hn hb a o ha ho
    have : n = 0 := by omega
    subst this
    show Ev _ ((nm 4 o 1 : Nat) : Int)
    rw [nm4_one_right ho]
    exact Ev.step (f := fun _ => some (o : Int)) (fun k => by simp only [spec_l01Power.l0]; rw [if_neg (by omega)]) (Ev.now _)
  | succ N ih =>
    intro n hn hb a o ha ho
    by_cases hz : n = 0
    · exact ih n (by omega) hb a o ha ho
    have hm : Int.tmod (n : Int) 2 = ((n % 2 : Nat) : Int) := rfl
    have hd : wrap64 (Int.tdiv (n : Int) 2) = ((n / 2 : Nat) : Int) := by
      have : Int.tdiv (n : Int) 2 = ((n / 2 : Nat) : Int) := rfl
      rw [this]; unfold wrap64; omega
    by_cases ho2 : n % 2 = 1
    · have e := ih (n / 2) (by omega) (by omega) (nm 4 a a) (nm 4 o a) (nm4_lt _ _) (nm4_lt _ _)
      have hv : nm 4 o (npow a n) = nm 4 (nm 4 o a) (npow (nm 4 a a) (n / 2)) := by
        rw [npow_sq, nm_assoc]
        congr 1
        have : n = 2 * (n / 2) + 1 := by omega
        conv => lhs; rw [this]
        show nm 4 (npow a (2 * (n / 2))) a = _
        rw [nm_comm]
      rw [hv]
      refine Ev.step (f := fun k => spec_l01Power.l0 k ((nm 4 a a : Nat) : Int) ((n / 2 : Nat) : Int) ((nm 4 o a : Nat) : Int)) (fun k => ?_) e
      simp only [spec_l01Power.l0]
      rw [if_pos (by omega), hm, if_pos (by omega), st ho ha, st ha ha, hd]
      rfl
    · have e := ih (n / 2) (by omega) (by omega) (nm 4 a a) o (nm4_lt _ _) ho
      have hv : npow a n = npow (nm 4 a a) (n / 2) := by
        rw [npow_sq]
        congr 1
        omega
      rw [hv]
      refine Ev.step (f := fun k => spec_l01Power.l0 k ((nm 4 a a : Nat) : Int) ((n / 2 : Nat) : Int) (o : Int)) (fun k => ?_) e
      simp only [spec_l01Power.l0]
      rw [if_pos (by omega), hm, if_neg (by omega), st ha ha, hd]
      rfl
theorem spow {a n : Nat} {m : Int} (hm : m = (n : Int)) (ha : a < 65536) (hn : n < 4611686018427387904) : ∃ K, ∃ v : Nat, v = npow a n ∧ v < 65536 ∧ ∀ k, K ≤ k → spec_l01Power.f k (a : Int) m = some (v : Int) := by
  have e := spow_ev n n (Nat.le_refl _) hn a 1 ha (by decide)
  rw [nm4_one_left (npow_lt a n)] at e
  obtain ⟨K, e⟩ := e
  subst hm
  exact ⟨K, _, rfl, npow_lt a n, e⟩

theorem root_ev : ∀ (d i a : Nat), i + d = 15 → a < 65536 → Ev (fun k => impl_root.l0 k (a : Int) (i : Int)) ((sqn d a : Nat) : Int) := by
  intro d
  induction d with
  | zero =>
    intro i a hi ha
    exact Ev.step (f := fun _ => some (a : Int)) (fun k => by simp only [impl_root.l0]; rw [if_neg (by omega)]) (Ev.now _)
  | succ d ih =>
    intro i a hi ha
    refine Ev.step (f := fun k => impl_root.l0 k ((nm 4 a a : Nat) : Int) ((i + 1 : Nat) : Int)) (fun k => ?_) (ih (i + 1) (nm 4 a a) (by omega) (nm4_lt a a))
    simp only [impl_root.l0]
    rw [if_pos (by omega), it ha ha, w64s (by omega)]
    rfl
theorem iroot {a : Nat} (ha : a < 65536) : ∃ K, ∀ k, K ≤ k → impl_root.f k (a : Int) = some ((sqn 15 a : Nat) : Int) := root_ev 15 0 a (by omega) ha

theorem toPoly_ev (l : List Int) (h : l.length ≤ 1048576) : ∃ K, ∀ k, K ≤ k → laws_toPoly.f k l = some l :=
  to_ev (fun _ _ => rfl) (fun _ _ _ _ => rfl) l (by omega)
theorem eqPoly_ev (l : List Int) (h : l.length ≤ 1048576) : ∃ K, ∀ k, K ≤ k → laws_eqPoly.f k l l = some true :=
  eq_refl_ev (fun _ _ _ => rfl) (fun _ _ _ _ => rfl) l (by omega)

theorem markPoly_ev (l : List Int) (c : Int) (h0 : 0 ≤ c) (h : c + (l.length : Int) ≤ 4611686018427387900) : ∃ K, ∀ k, K ≤ k → laws_markPoly.f k l c = some (c + (l.length : Int), marks .u16 c l.length) :=
  mark_ev (fun _ _ _ => rfl) (fun _ _ _ _ => rfl) l c h0 h
theorem heldPoly_ev (n : Nat) (c : Int) (h0 : 0 ≤ c) (h : c + (n : Int) ≤ 4611686018427387900) : ∃ K, ∀ k, K ≤ k → laws_heldPoly.f k (marks .u16 c n) c = some (c + (n : Int)) :=
  held_ev (fun _ _ _ => rfl) (fun _ _ _ _ => rfl) n c h0 h

def vpoly (l : List Int) : Bool := l.length == 0 || (decide (l.length ≤ 21) && l.getD (l.length - 1) 0 != 0)
theorem last_rd (l : List Int) (h : l.length ≠ 0) (h2 : l.length ≤ 1048576) : wrap64 ((l.length : Int) - 1) = ((l.length - 1 : Nat) : Int) := by
  unfold wrap64; omega
theorem spec_ok (l : List Int) (h : l.length ≤ 1048576) : spec_l05Ok.f l = some (vpoly l) := by
  unfold spec_l05Ok.f vpoly
  by_cases h0 : l.length = 0
  · rw [if_pos (by omega), h0]; rfl
  · rw [if_neg (by omega)]
    have hb : (l.length == 0) = false := by simpa using h0
    by_cases h21 : l.length ≤ 21
    · rw [if_pos (by omega), last_rd l h0 h, if_pos (by omega), if_pos (by omega), rd_nat, hb, decide_eq_true h21]; rfl
    · rw [if_neg (by omega), hb, decide_eq_false h21]; rfl
theorem impl_ok (l : List Int) (h : l.length ≤ 1048576) : impl_ValidPoly.f l = some (vpoly l) := by
  unfold impl_ValidPoly.f vpoly
  by_cases h21 : l.length ≤ 21
  · rw [if_pos (by omega)]
    by_cases h0 : l.length = 0
    · rw [if_pos (by omega), h0]; rfl
    · have hb : (l.length == 0) = false := by simpa using h0
      rw [if_neg (by omega), last_rd l h0 h, if_pos (by omega), if_pos (by omega), rd_nat, hb, decide_eq_true h21]; rfl
  · have hb : (l.length == 0) = false := by simp; intro e; rw [e] at h21; exact h21 (by decide)
    rw [if_neg (by omega), hb, decide_eq_false h21]; rfl

theorem getD_nat {l : List Int} (h : ∀ x ∈ l, (Lit.int .u16 x).wf = true) {i : Nat} (hi : i < l.length) : ∃ v : Nat, l.getD i 0 = (v : Int) ∧ v < 65536 := by
  have e : l.getD i 0 = l[i] := by simp [List.getD, hi]
  obtain ⟨v, hv, lv⟩ := wf_u16 (h _ (List.getElem_mem hi))
  exact ⟨v, e.trans hv, lv⟩

theorem rp_both (l : List Int) (wl : ∀ x ∈ l, (Lit.int .u16 x).wf = true) (hl : l.length ≤ 1048576) : ∀ (d i : Nat) (x : List Int), i + d = l.length → x.length ≤ i → ∃ r : List Int, ∃ c : Int, r.length ≤ 1048576 ∧
    Ev (fun k => spec_RootOfPoly.l0 k l x (i : Int)) (r, c) ∧ Ev (fun k => impl_RootOfPoly.l0 k x l (l.length : Int) (i : Int)) (r, c) := by
  intro d
  induction d with
  | zero =>
    intro i x hi hx
    exact ⟨x, 0, by omega, Ev.step (f := fun _ => some (x, 0)) (fun k => by simp only [spec_RootOfPoly.l0]; rw [if_neg (by omega)]) (Ev.now _),
      Ev.step (f := fun _ => some (x, 0)) (fun k => by simp only [impl_RootOfPoly.l0]; rw [if_neg (by omega)]) (Ev.now _)⟩
  | succ d ih =>
    intro i x hi hx
    obtain ⟨v, hv, lv⟩ := getD_nat wl (show i < l.length by omega)
    have hm : Int.tmod (i : Int) 2 = ((i % 2 : Nat) : Int) := rfl
    by_cases h2 : i % 2 = 1
    · by_cases hz : v = 0
      · obtain ⟨r, c, hr, e1, e2⟩ := ih (i + 1) x (by omega) (by omega)
        refine ⟨r, c, hr, Ev.step (f := fun k => spec_RootOfPoly.l0 k l x ((i + 1 : Nat) : Int)) (fun k => ?_) e1, Ev.step (f := fun k => impl_RootOfPoly.l0 k x l (l.length : Int) ((i + 1 : Nat) : Int)) (fun k => ?_) e2⟩
        · simp only [spec_RootOfPoly.l0]
          rw [if_pos (by omega), hm, if_pos (by omega), if_pos (by omega), rd_nat, hv, if_pos (by omega), w64s (by omega)]
        · simp only [impl_RootOfPoly.l0]
          rw [if_pos (by omega), if_pos (by omega), if_pos (by omega), hm, if_neg (by omega), rd_nat, hv, if_pos (by omega), w64s (by omega)]
      · refine ⟨[], 6, by simp, Ev.step (f := fun _ => some ([], 6)) (fun k => ?_) (Ev.now _), Ev.step (f := fun _ => some ([], 6)) (fun k => ?_) (Ev.now _)⟩
        · simp only [spec_RootOfPoly.l0]
          rw [if_pos (by omega), hm, if_pos (by omega), if_pos (by omega), rd_nat, hv, if_neg (by omega)]
        · simp only [impl_RootOfPoly.l0]
          rw [if_pos (by omega), if_pos (by omega), if_pos (by omega), hm, if_neg (by omega), rd_nat, hv, if_neg (by omega)]
    · obtain ⟨K1, s, hs, _, h1⟩ := spow (a := v) (n := 2 ^ 15) (m := 32768) (by decide) lv (by decide)
      obtain ⟨K2, h3⟩ := iroot lv
      rw [sqn_npow lv 15, ← hs] at h3
      clear hs
      obtain ⟨r, c, hr, ⟨K3, e1⟩, ⟨K4, e2⟩⟩ := ih (i + 1) (x ++ [(s : Int)]) (by omega) (by rw [List.length_append, List.length_singleton]; omega)
      refine ⟨r, c, hr, ⟨K1 + K3 + 1, fun k hk => ?_⟩, ⟨K2 + K4 + 1, fun k hk => ?_⟩⟩
      · obtain ⟨k, rfl⟩ : ∃ m, k = m + 1 := ⟨k - 1, by omega⟩
        simp only [spec_RootOfPoly.l0]
        rw [if_pos (by omega), hm, if_neg (by omega), if_pos (by omega), rd_nat, hv]
        unfold spec_RootOf.f
        rw [h1 k (by omega), Option.bind_some, Option.bind_some, if_pos (by omega), w64s (by omega)]
        exact e1 k (by omega)
      · obtain ⟨k, rfl⟩ : ∃ m, k = m + 1 := ⟨k - 1, by omega⟩
        simp only [impl_RootOfPoly.l0]
        rw [if_pos (by omega), if_pos (by omega), if_pos (by omega), hm, if_pos (by omega), rd_nat, hv, h3 k (by omega), Option.bind_some, if_pos (by omega), w64s (by omega)]
        exact e2 k (by omega)
theorem rp_same (l : List Int) (wl : ∀ x ∈ l, (Lit.int .u16 x).wf = true) (hl : l.length ≤ 1048576) : ∃ K, ∃ r : List Int, ∃ c : Int, r.length ≤ 1048576 ∧ ∀ k, K ≤ k → spec_RootOfPoly.f k l = some (r, c) ∧ impl_RootOfPoly.f k l = some (r, c) := by
  unfold spec_RootOfPoly.f impl_RootOfPoly.f
  simp only [spec_ok l hl, impl_ok l hl, Option.bind_some]
  by_cases hv : vpoly l = true
  · obtain ⟨r, c, hr, ⟨K1, h1⟩, ⟨K2, h2⟩⟩ := rp_both l wl hl l.length 0 [] (by omega) (by simp)
    refine ⟨K1 + K2, r, c, hr, fun k hk => ⟨?_, ?_⟩⟩
    · simp only [hv, if_true]; exact h1 k (by omega)
    · simp only [hv, if_true]; exact h2 k (by omega)
  · exact ⟨0, [], 1, by simp, fun k hk => by simp only [hv, Bool.false_eq_true, if_false, and_self]⟩

theorem FnExactRootOfPoly : laws_FnExactRootOfPoly.Pure := by
  intro l _ _ wl
  by_cases hb : (l.length : Int) > 1048576
  · exact ⟨0, by unfold laws_FnExactRootOfPoly.f; rw [if_pos hb]⟩
  have hl : l.length ≤ 1048576 := by omega
  obtain ⟨K1, h1⟩ := toPoly_ev l hl
  obtain ⟨K3, h3⟩ := eqPoly_ev l hl
  obtain ⟨K5, r, c, hr, h5⟩ := rp_same l wl hl
  obtain ⟨K6, h6⟩ := eqPoly_ev r hr
  obtain ⟨K7, h7⟩ := markPoly_ev l 1 (by omega) (by omega)
  obtain ⟨K9, h9⟩ := markPoly_ev r 1 (by omega) (by omega)
  obtain ⟨K10, h10⟩ := heldPoly_ev r.length 1 (by omega) (by omega)
  obtain ⟨K, hK⟩ : ∃ K, K = K1 + K3 + K5 + K6 + K7 + K9 + K10 := ⟨_, rfl⟩
  have n1 : ¬ (1 + (l.length : Int) < 0) := by omega
  have n2 : ¬ (1 + (r.length : Int) < 0) := by omega
  refine ⟨K + 3, ?_⟩
  unfold laws_FnExactRootOfPoly.f
  rw [if_neg hb]
  simp only [Option.bind_some, h1 (K + 3) (by omega), (h5 (K + 3) (by omega)).1, (h5 (K + 3) (by omega)).2, h6 (K + 3) (by omega), if_true, bne_self_eq_false, laws_FnExactRootOfPoly.j0,
    h1 (K + 2) (by omega), h3 (K + 2) (by omega), h7 (K + 2) (by omega), n1, if_false, h6 (K + 2) (by omega), laws_FnExactRootOfPoly.j1,
    h9 (K + 1) (by omega), h10 (K + 1) (by omega), n2, h1 (K + 1) (by omega), (h5 (K + 1) (by omega)).2, h6 (K + 1) (by omega), laws_FnExactRootOfPoly.j2, h10 K (by omega), Bool.false_eq_true]

end Go.Proofs.Ytkmpdnnifohifaa.Pure
