/- The law FnExactPowersMatrix returns true for all arguments, as a statement on numbers and lists alone. -/
import Derived.Test.YthjbeglmdifhdaaRFnExactPowersMatrixx1
import Derived.Test.YthjbeglmdifhdaaN1
namespace Go.Proofs.Ythjbeglmdifhdaa.Pure
open Go.RowKit Go.Proofs.Ythjbeglmdifhdaa.RFnExactPowersMatrix Go.Proofs.YthjbeglmdifhdaaW.PrintWords Go.Proofs.YthjbeglmdifhdaaW.PrintLast Go.Proofs.YthjbeglmdifhdaaW.PrintMore Go.Proofs.Ythjbeglmdifhdaa.NimF Go.Proofs.Ythjbeglmdifhdaa.NimGo Go.Proofs.Ythjbeglmdifhdaa.Given
theorem it {a b : Nat} (ha : a < 65536) (hb : b < 65536) : impl_times.f (a : Int) (b : Int) = some ((nm 4 a b : Nat) : Int) := nimTimes_nat ha hb

theorem and_one {n : Nat} (h : n < 4611686018427387904) : Go.bits .and .i64 (n : Int) 1 = ((n % 2 : Nat) : Int) := by
  have := (bits_nat .i64 62 (by decide) (fun x h0 h1 => by simp [IntKind.wrap, IntKind.bits, IntKind.signed]; omega) n 1 h (by decide)).1
  rw [show ((1 : Nat) : Int) = 1 from rfl] at this
  rw [this, Nat.and_one_is_mod]
theorem ipow_ev : ∀ (N n : Nat), n ≤ N → n < 4611686018427387904 → ∀ (a o : Nat), a < 65536 → o < 65536 → Ev (fun k => impl_power.l0 k (a : Int) (n : Int) (o : Int)) ((nm 4 o (npow a n) : Nat) : Int) := by
  intro N
  induction N with
  | zero =>
    intro n hn hb a o ha ho
    have : n = 0 := by omega
    subst this
    show Ev _ ((nm 4 o 1 : Nat) : Int)
    rw [nm4_one_right ho]
    exact Ev.step (f := fun _ => some (o : Int)) (fun k => by simp only [impl_power.l0]; rw [if_neg (by omega)]) (Ev.now _)
  | succ N ih =>
    intro n hn hb a o ha ho
    by_cases hz : n = 0
    · exact ih n (by omega) hb a o ha ho
    have hd : (n : Int) / 2 = ((n / 2 : Nat) : Int) := by omega
    by_cases ho2 : n % 2 = 1
    · have e := ih (n / 2) (by omega) (by omega) (nm 4 a a) (nm 4 o a) (nm4_lt _ _) (nm4_lt _ _)
      have hv : nm 4 o (npow a n) = nm 4 (nm 4 o a) (npow (nm 4 a a) (n / 2)) := by
        rw [npow_sq, nm_assoc]
        congr 1
        have : n = 2 * (n / 2) + 1 := by omega
        conv => lhs; rw [this]
        show nm 4 (npow a (2 * (n / 2))) a = _
        rw [nm_comm]
      rw [hv]
      refine Ev.step (f := fun k => impl_power.l0 k ((nm 4 a a : Nat) : Int) ((n / 2 : Nat) : Int) ((nm 4 o a : Nat) : Int)) (fun k => ?_) e
      simp only [impl_power.l0]
      rw [if_pos (by omega), and_one hb, if_pos (by omega), it ho ha, it ha ha, hd]
      rfl
    · have e := ih (n / 2) (by omega) (by omega) (nm 4 a a) o (nm4_lt _ _) ho
      have hv : npow a n = npow (nm 4 a a) (n / 2) := by
        rw [npow_sq]
        congr 1
        omega
      rw [hv]
      refine Ev.step (f := fun k => impl_power.l0 k ((nm 4 a a : Nat) : Int) ((n / 2 : Nat) : Int) (o : Int)) (fun k => ?_) e
      simp only [impl_power.l0]
      rw [if_pos (by omega), and_one hb, if_neg (by omega), it ha ha, hd]
      rfl
theorem ipow {a n : Nat} {m : Int} (hm : m = (n : Int)) (ha : a < 65536) (hn : n < 4611686018427387904) : ∃ K, ∃ v : Nat, v = npow a n ∧ v < 65536 ∧ ∀ k, K ≤ k → impl_power.f k (a : Int) m = some (v : Int) := by
  have e := ipow_ev n n (Nat.le_refl _) hn a 1 ha (by decide)
  rw [nm4_one_left (npow_lt a n)] at e
  obtain ⟨K, e⟩ := e
  subst hm
  exact ⟨K, _, rfl, npow_lt a n, e⟩

theorem toNimberS_ev (l : List Int) (h : l.length ≤ 1048576) : ∃ K, ∀ k, K ≤ k → laws_toNimberS.f k l = some l :=
  to_ev (fun _ _ => rfl) (fun _ _ _ _ => rfl) l (by omega)
theorem eqNimberS_ev (l : List Int) (h : l.length ≤ 1048576) : ∃ K, ∀ k, K ≤ k → laws_eqNimberS.f k l l = some true :=
  eq_refl_ev (fun _ _ _ => rfl) (fun _ _ _ _ => rfl) l (by omega)

end Go.Proofs.Ythjbeglmdifhdaa.Pure
