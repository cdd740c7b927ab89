/- The law FnExactWordAtPlace returns true for all arguments, as a statement on numbers and lists alone. -/
import Derived.Test.YtiigbilpoakgiaaPFnExactWordAtPlacex2
import Derived.Test.YtiigbilpoakgiaaN1
namespace Go.Proofs.Ytiigbilpoakgiaa.Pure
open Go.RowKit Go.Proofs.Ytiigbilpoakgiaa.PFnExactWordAtPlace Go.Proofs.YtiigbilpoakgiaaW.PrintWords Go.Proofs.YtiigbilpoakgiaaW.PrintLast Go.Proofs.YtiigbilpoakgiaaW.PrintMore Go.Proofs.Ytiigbilpoakgiaa.NimF Go.Proofs.Ytiigbilpoakgiaa.NimGo
theorem eqWord_ev (l : List Int) (h : l.length ≤ 1048576) : ∃ K, ∀ k, K ≤ k → laws_eqWord.f k l l = some true :=
  eq_refl_ev (fun _ _ _ => rfl) (fun _ _ _ _ => rfl) l (by omega)

theorem markWord_ev (l : List Int) (c : Int) (h0 : 0 ≤ c) (h : c + (l.length : Int) ≤ 4611686018427387900) : ∃ K, ∀ k, K ≤ k → laws_markWord.f k l c = some (c + (l.length : Int), marks .u16 c l.length) :=
  mark_ev (fun _ _ _ => rfl) (fun _ _ _ _ => rfl) l c h0 h
theorem heldWord_ev (n : Nat) (c : Int) (h0 : 0 ≤ c) (h : c + (n : Int) ≤ 4611686018427387900) : ∃ K, ∀ k, K ≤ k → laws_heldWord.f k (marks .u16 c n) c = some (c + (n : Int)) :=
  held_ev (fun _ _ _ => rfl) (fun _ _ _ _ => rfl) n c h0 h

def isB (b : Int) : Bool := b == 2 || b == 4 || b == 16 || b == 256
theorem sbase (b : Int) : spec_l06Base.f b = some (isB b) := by
  unfold spec_l06Base.f isB
  by_cases h2 : b = 2
  · subst h2; rfl
  by_cases h4 : b = 4
  · subst h4; rfl
  by_cases h16 : b = 16
  · subst h16; rfl
  rw [if_neg h2, if_neg h4, if_neg h16]
  have e2 : (b == 2) = false := beq_eq_false_iff_ne.mpr h2
  have e4 : (b == 4) = false := beq_eq_false_iff_ne.mpr h4
  have e16 : (b == 16) = false := beq_eq_false_iff_ne.mpr h16
  rw [e2, e4, e16]; rfl
theorem ibase (b : Int) : impl_isBase.f b = some (isB b) := sbase b
theorem isB_cases {b : Int} (h : isB b = true) : b = 2 ∨ b = 4 ∨ b = 16 ∨ b = 256 := by
  unfold isB at h
  simp only [Bool.or_eq_true, beq_iff_eq] at h
  omega
theorem sin (a b c : Int) : spec_l00In.f a b c = some (decide (b ≤ a ∧ a ≤ c)) := by
  unfold spec_l00In.f
  by_cases h : a ≥ b
  · rw [if_pos h]; congr 1; rw [Bool.eq_iff_iff]; simp only [decide_eq_true_eq]; omega
  · rw [if_neg h]; congr 1; symm; exact decide_eq_false (by omega)
theorem iin (a b c : Int) : impl_within.f a b c = some (decide (b ≤ a ∧ a ≤ c)) := by
  unfold impl_within.f
  by_cases h : b ≤ a
  · rw [if_pos h]; congr 1; rw [Bool.eq_iff_iff]; simp only [decide_eq_true_eq]; omega
  · rw [if_neg h]; congr 1; symm; exact decide_eq_false (by omega)

/-- a number times itself so often, as the machine does -/
def mulN (b : Int) : Nat → Int → Int
  | 0, o => o
  | n + 1, o => mulN b n (wrap64 (o * b))
theorem sall (b : Int) : ∀ (n : Nat) (o : Int), n ≤ 100 → Ev (fun k => spec_l06All.l0 k b (n : Int) o) (mulN b n o) := by
  intro n
  induction n with
  | zero => intro o _; exact Ev.step (f := fun _ => some o) (fun k => by simp only [spec_l06All.l0]; rw [if_neg (by omega)]) (Ev.now _)
  | succ n ih =>
    intro o hn
    refine Ev.step (f := fun k => spec_l06All.l0 k b (n : Int) (wrap64 (o * b))) (fun k => ?_) (ih _ (by omega))
    simp only [spec_l06All.l0]
    have : wrap64 (((n + 1 : Nat) : Int) - 1) = (n : Int) := by unfold wrap64; omega
    rw [if_pos (by omega), this]
theorem iall (b : Int) (m : Nat) (hm : m ≤ 100) : ∀ (n i : Nat) (o : Int), i + n = m → Ev (fun k => impl_howMany.l0 k b o (m : Int) (i : Int)) (mulN b n o) := by
  intro n
  induction n with
  | zero => intro i o _; exact Ev.step (f := fun _ => some o) (fun k => by simp only [impl_howMany.l0]; rw [if_neg (by omega)]) (Ev.now _)
  | succ n ih =>
    intro i o hn
    refine Ev.step (f := fun k => impl_howMany.l0 k b (wrap64 (o * b)) (m : Int) ((i + 1 : Nat) : Int)) (fun k => ?_) (ih _ _ (by omega))
    simp only [impl_howMany.l0]
    rw [if_pos (by omega), w64s (by omega)]
/-- the letters of a place, the last one first -/
def atN (b : Int) : Nat → Int → List Int → List Int
  | 0, _, x => x
  | n + 1, p, x => atN b n (wrap64 (Int.tdiv p b)) (x.set n (IntKind.u16.wrap (Int.tmod p b)))
theorem atN_length (b : Int) : ∀ (n : Nat) (p : Int) (x : List Int), (atN b n p x).length = x.length := by
  intro n
  induction n with
  | zero => intro p x; rfl
  | succ n ih => intro p x; show (atN b n _ _).length = _; rw [ih]; simp
theorem sat (b : Int) (hb : b ≠ 0) : ∀ (n : Nat) (p : Int) (x : List Int), n ≤ 100 → n ≤ x.length → Ev (fun k => spec_l06At.l0 k b p x ((n : Int) - 1)) (atN b n p x) := by
  intro n
  induction n with
  | zero => intro p x _ _; exact Ev.step (f := fun _ => some x) (fun k => by simp only [spec_l06At.l0]; rw [if_neg (by omega)]) (Ev.now _)
  | succ n ih =>
    intro p x hn hx
    refine Ev.step (f := fun k => spec_l06At.l0 k b (wrap64 (Int.tdiv p b)) (x.set n (IntKind.u16.wrap (Int.tmod p b))) ((n : Int) - 1)) (fun k => ?_) (ih _ _ (by omega) (by simp; omega))
    simp only [spec_l06At.l0]
    have e : ((n + 1 : Nat) : Int) - 1 = (n : Int) := by omega
    have w : wrap64 ((n : Int) - 1) = (n : Int) - 1 := by unfold wrap64; omega
    rw [e, if_pos (by omega), if_neg hb, if_pos (by omega), if_pos (by omega), w, Int.toNat_natCast]
theorem iat (b : Int) (hb : b ≠ 0) : ∀ (n : Nat) (p : Int) (x : List Int), n ≤ 100 → n ≤ x.length → Ev (fun k => impl_atPlace.l0 k b p x ((n : Int) - 1)) (atN b n p x) := by
  intro n
  induction n with
  | zero => intro p x _ _; exact Ev.step (f := fun _ => some x) (fun k => by simp only [impl_atPlace.l0]; rw [if_neg (by omega)]) (Ev.now _)
  | succ n ih =>
    intro p x hn hx
    refine Ev.step (f := fun k => impl_atPlace.l0 k b (wrap64 (Int.tdiv p b)) (x.set n (IntKind.u16.wrap (Int.tmod p b))) ((n : Int) - 1)) (fun k => ?_) (ih _ _ (by omega) (by simp; omega))
    simp only [impl_atPlace.l0]
    have e : ((n + 1 : Nat) : Int) - 1 = (n : Int) := by omega
    have w : wrap64 ((n : Int) - 1) = (n : Int) - 1 := by unfold wrap64; omega
    rw [e, if_pos (by omega), if_neg hb, if_pos (by omega), if_pos (by omega), w, Int.toNat_natCast]
theorem sat_ev (b p : Int) (n : Nat) (hb : b ≠ 0) (hn : n ≤ 100) : ∃ K, ∀ k, K ≤ k → spec_l06At.f k b (n : Int) p = some (atN b n p (List.replicate n 0)) := by
  obtain ⟨K, h⟩ := sat b hb n p (List.replicate n 0) hn (by simp)
  refine ⟨K, fun k hk => ?_⟩
  unfold spec_l06At.f
  have w : wrap64 ((n : Int) - 1) = (n : Int) - 1 := by unfold wrap64; omega
  rw [if_pos (by omega), if_pos (by omega), w, Int.toNat_natCast]
  exact h k hk
theorem iat_ev (b p : Int) (n : Nat) (hb : b ≠ 0) (hn : n ≤ 100) : ∃ K, ∀ k, K ≤ k → impl_atPlace.f k b (n : Int) p = some (atN b n p (List.replicate n 0)) := by
  obtain ⟨K, h⟩ := iat b hb n p (List.replicate n 0) hn (by simp)
  refine ⟨K, fun k hk => ?_⟩
  unfold impl_atPlace.f
  have w : wrap64 ((n : Int) - 1) = (n : Int) - 1 := by unfold wrap64; omega
  rw [if_pos (by omega), if_pos (by omega), w, Int.toNat_natCast]
  exact h k hk

theorem wap_same (b len p : Int) : ∃ K, ∃ r : List Int, ∃ c : Int, r.length ≤ 1048576 ∧ ∀ k, K ≤ k → spec_WordAtPlace.f k b len p = some (r, c) ∧ impl_WordAtPlace.f k b len p = some (r, c) := by
  unfold spec_WordAtPlace.f impl_WordAtPlace.f
  simp only [sbase, ibase, sin, iin, Option.bind_some]
  by_cases hB : isB b = true
  · by_cases hl : 1 ≤ len ∧ len ≤ 7
    · obtain ⟨n, rfl⟩ := Int.eq_ofNat_of_zero_le (show 0 ≤ len by omega)
      have hb0 : b ≠ 0 := by have := isB_cases hB; omega
      obtain ⟨K1, h1⟩ := sall b n 1 (by omega)
      obtain ⟨K2, h2⟩ := iall b n (by omega) n 0 1 (by omega)
      obtain ⟨K3, h3⟩ := sat_ev b p n hb0 (by omega)
      obtain ⟨K4, h4⟩ := iat_ev b p n hb0 (by omega)
      have h1' : ∀ k, K1 ≤ k → spec_l06All.f k b (n : Int) = some (mulN b n 1) := h1
      have h2' : ∀ k, K2 ≤ k → impl_howMany.f k b (n : Int) = some (mulN b n 1) := h2
      by_cases hp : 0 ≤ p ∧ p ≤ wrap64 (mulN b n 1 - 1)
      · refine ⟨K1 + K2 + K3 + K4, atN b n p (List.replicate n 0), 0, by rw [atN_length]; simp; omega, fun k hk => ⟨?_, ?_⟩⟩
        · simp only [hB, if_true, hl, decide_true, and_self, h1' k (by omega), Option.bind_some, hp, h3 k (by omega)]
        · simp only [hB, if_true, hl, decide_true, and_self, h2' k (by omega), Option.bind_some, hp, h4 k (by omega)]
      · refine ⟨K1 + K2, [], 2, by simp, fun k hk => ⟨?_, ?_⟩⟩
        · simp only [hB, if_true, hl, decide_true, and_self, h1' k (by omega), Option.bind_some, hp, decide_false, Bool.false_eq_true, if_false]
        · simp only [hB, if_true, hl, decide_true, and_self, h2' k (by omega), Option.bind_some, hp, decide_false, Bool.false_eq_true, if_false]
    · refine ⟨0, [], 2, by simp, fun k hk => ⟨?_, ?_⟩⟩ <;> simp only [hB, if_true, hl, decide_false, Bool.false_eq_true, if_false]
  · refine ⟨0, [], 2, by simp, fun k hk => ⟨?_, ?_⟩⟩ <;> simp only [hB, Bool.false_eq_true, if_false]
theorem FnExactWordAtPlace : laws_FnExactWordAtPlace.Pure := by
  intro b len p _ _ _
  obtain ⟨K1, r, c, hr, h1⟩ := wap_same b len p
  obtain ⟨K2, h2⟩ := eqWord_ev r hr
  obtain ⟨K3, h3⟩ := markWord_ev r 1 (by omega) (by omega)
  obtain ⟨K4, h4⟩ := heldWord_ev r.length 1 (by omega) (by omega)
  obtain ⟨K, hK⟩ : ∃ K, K = K1 + K2 + K3 + K4 := ⟨_, rfl⟩
  have n2 : ¬ (1 + (r.length : Int) < 0) := by omega
  refine ⟨K + 2, ?_⟩
  unfold laws_FnExactWordAtPlace.f
  simp only [Option.bind_some, (h1 (K + 2) (by omega)).1, (h1 (K + 2) (by omega)).2, h2 (K + 2) (by omega), if_true, bne_self_eq_false, laws_FnExactWordAtPlace.j0, h3 (K + 1) (by omega), h4 (K + 1) (by omega), n2, if_false, (h1 (K + 1) (by omega)).2, h2 (K + 1) (by omega), laws_FnExactWordAtPlace.j1, h4 K (by omega), Bool.false_eq_true]

end Go.Proofs.Ytiigbilpoakgiaa.Pure
