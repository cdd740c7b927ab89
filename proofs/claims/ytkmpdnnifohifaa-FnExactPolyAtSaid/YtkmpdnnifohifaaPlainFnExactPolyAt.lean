/- The law FnExactPolyAt returns true for all arguments, as a statement on numbers and lists alone. -/
import Derived.Test.YtkmpdnnifohifaaRFnExactPolyAtx2
import Derived.Test.YtkmpdnnifohifaaN1
namespace Go.Proofs.Ytkmpdnnifohifaa.Pure
open Go.RowKit Go.Proofs.Ytkmpdnnifohifaa.RFnExactPolyAt Go.Proofs.YtkmpdnnifohifaaW.PrintWords Go.Proofs.YtkmpdnnifohifaaW.PrintLast Go.Proofs.YtkmpdnnifohifaaW.PrintMore Go.Proofs.Ytkmpdnnifohifaa.NimF Go.Proofs.Ytkmpdnnifohifaa.NimGo Go.Proofs.Ytkmpdnnifohifaa.Given
theorem st {a b : Nat} (ha : a < 65536) (hb : b < 65536) : spec_l01Times.f (a : Int) (b : Int) = some ((nm 4 a b : Nat) : Int) := nimTimes_nat ha hb

theorem it {a b : Nat} (ha : a < 65536) (hb : b < 65536) : impl_times.f (a : Int) (b : Int) = some ((nm 4 a b : Nat) : Int) := nimTimes_nat ha hb

theorem toPoly_ev (l : List Int) (h : l.length ≤ 1048576) : ∃ K, ∀ k, K ≤ k → laws_toPoly.f k l = some l :=
  to_ev (fun _ _ => rfl) (fun _ _ _ _ => rfl) l (by omega)
theorem eqPoly_ev (l : List Int) (h : l.length ≤ 1048576) : ∃ K, ∀ k, K ≤ k → laws_eqPoly.f k l l = some true :=
  eq_refl_ev (fun _ _ _ => rfl) (fun _ _ _ _ => rfl) l (by omega)

def vpoly (l : List Int) : Bool := l.length == 0 || (decide (l.length ≤ 21) && l.getD (l.length - 1) 0 != 0)
theorem last_rd (l : List Int) (h : l.length ≠ 0) (h2 : l.length ≤ 1048576) : wrap64 ((l.length : Int) - 1) = ((l.length - 1 : Nat) : Int) := by
  unfold wrap64; omega
theorem spec_ok (l : List Int) (h : l.length ≤ 1048576) : spec_l05Ok.f l = some (vpoly l) := by
  unfold spec_l05Ok.f vpoly
  by_cases h0 : l.length = 0
  · rw [if_pos (by omega), h0]; rfl
  · rw [if_neg (by omega)]
    have hb : (l.length == 0) = false := by simpa using h0
    by_cases h21 : l.length ≤ 21
    · rw [if_pos (by omega), last_rd l h0 h, if_pos (by omega), if_pos (by omega), rd_nat, hb, decide_eq_true h21]; rfl
    · rw [if_neg (by omega), hb, decide_eq_false h21]; rfl
theorem impl_ok (l : List Int) (h : l.length ≤ 1048576) : impl_ValidPoly.f l = some (vpoly l) := by
  unfold impl_ValidPoly.f vpoly
  by_cases h21 : l.length ≤ 21
  · rw [if_pos (by omega)]
    by_cases h0 : l.length = 0
    · rw [if_pos (by omega), h0]; rfl
    · have hb : (l.length == 0) = false := by simpa using h0
      rw [if_neg (by omega), last_rd l h0 h, if_pos (by omega), if_pos (by omega), rd_nat, hb, decide_eq_true h21]; rfl
  · have hb : (l.length == 0) = false := by simp; intro e; rw [e] at h21; exact h21 (by decide)
    rw [if_neg (by omega), hb, decide_eq_false h21]; rfl

theorem getD_nat {l : List Int} (h : ∀ x ∈ l, (Lit.int .u16 x).wf = true) {i : Nat} (hi : i < l.length) : ∃ v : Nat, l.getD i 0 = (v : Int) ∧ v < 65536 := by
  have e : l.getD i 0 = l[i] := by simp [List.getD, hi]
  obtain ⟨v, hv, lv⟩ := wf_u16 (h _ (List.getElem_mem hi))
  exact ⟨v, e.trans hv, lv⟩

theorem pat_both (l : List Int) (wl : ∀ x ∈ l, (Lit.int .u16 x).wf = true) (hl : l.length ≤ 1048576) (x : Nat) (hx : x < 65536) : ∀ (n s : Nat), n ≤ l.length → s < 65536 → ∃ v : Int,
    Ev (fun k => spec_l05At.l0 k l (x : Int) (s : Int) ((n : Int) - 1)) v ∧ Ev (fun k => impl_Poly_at.l0 k l (x : Int) (s : Int) ((n : Int) - 1)) v := by
  intro n
  induction n with
  | zero =>
    intro s _ _
    exact ⟨(s : Int), Ev.step (f := fun _ => some (s : Int)) (fun k => by simp only [spec_l05At.l0]; rw [if_neg (by omega)]) (Ev.now _),
      Ev.step (f := fun _ => some (s : Int)) (fun k => by simp only [impl_Poly_at.l0]; rw [if_neg (by omega)]) (Ev.now _)⟩
  | succ n ih =>
    intro s hn hs
    obtain ⟨v, hv, lv⟩ := getD_nat wl (show n < l.length by omega)
    obtain ⟨r, h1, h2⟩ := ih (nm 4 s x ^^^ v) (by omega) (Nat.xor_lt_two_pow (n := 16) (nm4_lt _ _) lv)
    have e : ((n + 1 : Nat) : Int) - 1 = (n : Int) := by omega
    have w : wrap64 ((n : Int) - 1) = (n : Int) - 1 := by unfold wrap64; omega
    refine ⟨r, Ev.step (f := fun k => spec_l05At.l0 k l (x : Int) ((nm 4 s x ^^^ v : Nat) : Int) ((n : Int) - 1)) (fun k => ?_) h1,
      Ev.step (f := fun k => impl_Poly_at.l0 k l (x : Int) ((nm 4 s x ^^^ v : Nat) : Int) ((n : Int) - 1)) (fun k => ?_) h2⟩
    · simp only [spec_l05At.l0]
      rw [e, if_pos (by omega), st hs hx, Option.bind_some, if_pos (by omega), if_pos (by omega), rd_nat, hv, xor16 (nm4_lt _ _) lv, w]
    · simp only [impl_Poly_at.l0]
      rw [e, if_pos (by omega), it hs hx, Option.bind_some, if_pos (by omega), if_pos (by omega), rd_nat, hv, xor16 (nm4_lt _ _) lv, w]
theorem pat_ev (l : List Int) (wl : ∀ x ∈ l, (Lit.int .u16 x).wf = true) (hl : l.length ≤ 1048576) (x : Nat) (hx : x < 65536) : ∃ K, ∃ v : Int, ∀ k, K ≤ k → spec_l05At.f k l (x : Int) = some v ∧ impl_Poly_at.f k l (x : Int) = some v := by
  obtain ⟨v, ⟨K1, h1⟩, ⟨K2, h2⟩⟩ := pat_both l wl hl x hx l.length 0 (Nat.le_refl _) (by omega)
  have w : wrap64 ((l.length : Int) - 1) = (l.length : Int) - 1 := by unfold wrap64; omega
  refine ⟨K1 + K2, v, fun k hk => ⟨?_, ?_⟩⟩
  · unfold spec_l05At.f; rw [w]; exact h1 k (by omega)
  · unfold impl_Poly_at.f; rw [w]; exact h2 k (by omega)

theorem FnExactPolyAt : laws_FnExactPolyAt.Pure := by
  intro l a1 _ _ wl hx
  obtain ⟨x, rfl, lx⟩ := wf_u16 hx
  by_cases hb : (l.length : Int) > 1048576
  · exact ⟨0, by unfold laws_FnExactPolyAt.f; rw [if_pos hb]⟩
  have hl : l.length ≤ 1048576 := by omega
  obtain ⟨K1, h1⟩ := toPoly_ev l hl
  obtain ⟨K2, h2⟩ := eqPoly_ev l hl
  obtain ⟨K3, v, h3⟩ := pat_ev l wl hl x lx
  obtain ⟨r, h4⟩ : ∃ r : Int × Int, ∀ k, K3 ≤ k → spec_PolyAt.f k l (x : Int) = some r ∧ impl_PolyAt.f k l (x : Int) = some r := by
    unfold spec_PolyAt.f impl_PolyAt.f
    simp only [spec_ok l hl, impl_ok l hl, Option.bind_some]
    by_cases hv : vpoly l = true
    · exact ⟨(v, 0), fun k hk => by simp only [hv, if_true, (h3 k hk).1, (h3 k hk).2, Option.bind_some, and_self]⟩
    · exact ⟨(0, 1), fun k hk => by simp only [hv, Bool.false_eq_true, if_false, and_self]⟩
  obtain ⟨K, hK⟩ : ∃ K, K = K1 + K2 + K3 := ⟨_, rfl⟩
  refine ⟨K + 1, ?_⟩
  unfold laws_FnExactPolyAt.f
  rw [if_neg hb]
  simp only [Option.bind_some, h1 (K + 1) (by omega), (h4 (K + 1) (by omega)).1, (h4 (K + 1) (by omega)).2, if_true, bne_self_eq_false, laws_FnExactPolyAt.j0, h1 K (by omega), h2 K (by omega), Bool.false_eq_true, if_false]

end Go.Proofs.Ytkmpdnnifohifaa.Pure
