/- The law FnExactRootOf returns true for all arguments, as a statement on numbers and lists alone. -/
import Derived.Test.YtenmcdnjbplnlaaRFnExactRootOfx1
import Derived.Test.YtenmcdnjbplnlaaN1
namespace Go.Proofs.Ytenmcdnjbplnlaa.Pure
open Go.RowKit Go.Proofs.Ytenmcdnjbplnlaa.RFnExactRootOf Go.Proofs.YtenmcdnjbplnlaaW.PrintWords Go.Proofs.YtenmcdnjbplnlaaW.PrintLast Go.Proofs.YtenmcdnjbplnlaaW.PrintMore Go.Proofs.Ytenmcdnjbplnlaa.NimF Go.Proofs.Ytenmcdnjbplnlaa.NimGo Go.Proofs.Ytenmcdnjbplnlaa.Given
theorem st {a b : Nat} (ha : a < 65536) (hb : b < 65536) : spec_l01Times.f (a : Int) (b : Int) = some ((nm 4 a b : Nat) : Int) := nimTimes_nat ha hb

theorem it {a b : Nat} (ha : a < 65536) (hb : b < 65536) : impl_times.f (a : Int) (b : Int) = some ((nm 4 a b : Nat) : Int) := nimTimes_nat ha hb

theorem spow_ev : ∀ (N n : Nat), n ≤ N → n < 4611686018427387904 → ∀ (a o : Nat), a < 65536 → o < 65536 → Ev (fun k => spec_l01Power.l0 k (a : Int) (n : Int) (o : Int)) ((nm 4 o (npow a n) : Nat) : Int) := by
  intro N
  induction N with
  | zero =>
    intro n hn hb a o ha ho
    have : n = 0 := by omega
    subst this
    show Ev _ ((nm 4 o 1 : Nat) : Int)
    rw [nm4_one_right ho]
    exact Ev.step (f := fun _ => some (o : Int)) (fun k => by simp only [spec_l01Power.l0]; rw [if_neg (by omega)]) (Ev.now _)
  | succ N ih =>
    intro n hn hb a o ha ho
    by_cases hz : n = 0
    · exact ih n (by omega) hb a o ha ho
    have hm : Int.tmod (n : Int) 2 = ((n % 2 : Nat) : Int) := rfl
    have hd : wrap64 (Int.tdiv (n : Int) 2) = ((n / 2 : Nat) : Int) := by
      have : Int.tdiv (n : Int) 2 = ((n / 2 : Nat) : Int) := rfl
      rw [this]; unfold wrap64; omega
    by_cases ho2 : n % 2 = 1
    · have e := ih (n / 2) (by omega) (by omega) (nm 4 a a) (nm 4 o a) (nm4_lt _ _) (nm4_lt _ _)
      have hv : nm 4 o (npow a n) = nm 4 (nm 4 o a) (npow (nm 4 a a) (n / 2)) := by
        rw [npow_sq, nm_assoc]
        congr 1
        have : n = 2 * (n / 2) + 1 := by omega
        conv => lhs; rw [this]
        show nm 4 (npow a (2 * (n / 2))) a = _
        rw [nm_comm]
      rw [hv]
      refine Ev.step (f := fun k => spec_l01Power.l0 k ((nm 4 a a : Nat) : Int) ((n / 2 : Nat) : Int) ((nm 4 o a : Nat) : Int)) (fun k => ?_) e
      simp only [spec_l01Power.l0]
      rw [if_pos (by omega), hm, if_pos (by omega), st ho ha, st ha ha, hd]
      rfl
    · have e := ih (n / 2) (by omega) (by omega) (nm 4 a a) o (nm4_lt _ _) ho
      have hv : npow a n = npow (nm 4 a a) (n / 2) := by
        rw [npow_sq]
        congr 1
        omega
      rw [hv]
      refine Ev.step (f := fun k => spec_l01Power.l0 k ((nm 4 a a : Nat) : Int) ((n / 2 : Nat) : Int) (o : Int)) (fun k => ?_) e
      simp only [spec_l01Power.l0]
      rw [if_pos (by omega), hm, if_neg (by omega), st ha ha, hd]
      rfl
theorem spow {a n : Nat} {m : Int} (hm : m = (n : Int)) (ha : a < 65536) (hn : n < 4611686018427387904) : ∃ K, ∃ v : Nat, v = npow a n ∧ v < 65536 ∧ ∀ k, K ≤ k → spec_l01Power.f k (a : Int) m = some (v : Int) := by
  have e := spow_ev n n (Nat.le_refl _) hn a 1 ha (by decide)
  rw [nm4_one_left (npow_lt a n)] at e
  obtain ⟨K, e⟩ := e
  subst hm
  exact ⟨K, _, rfl, npow_lt a n, e⟩

theorem root_ev : ∀ (d i a : Nat), i + d = 15 → a < 65536 → Ev (fun k => impl_root.l0 k (a : Int) (i : Int)) ((sqn d a : Nat) : Int) := by
  intro d
  induction d with
  | zero =>
    intro i a hi ha
    exact Ev.step (f := fun _ => some (a : Int)) (fun k => by simp only [impl_root.l0]; rw [if_neg (by omega)]) (Ev.now _)
  | succ d ih =>
    intro i a hi ha
    refine Ev.step (f := fun k => impl_root.l0 k ((nm 4 a a : Nat) : Int) ((i + 1 : Nat) : Int)) (fun k => ?_) (ih (i + 1) (nm 4 a a) (by omega) (nm4_lt a a))
    simp only [impl_root.l0]
    rw [if_pos (by omega), it ha ha, w64s (by omega)]
    rfl
theorem iroot {a : Nat} (ha : a < 65536) : ∃ K, ∀ k, K ≤ k → impl_root.f k (a : Int) = some ((sqn 15 a : Nat) : Int) := root_ev 15 0 a (by omega) ha
theorem FnExactRootOf : laws_FnExactRootOf.Pure := by
  intro a0 h0
  obtain ⟨a, rfl, ha⟩ := wf_u16 h0
  obtain ⟨K1, v, hv, _, h1⟩ := spow (a := a) (n := 2 ^ 15) (m := 32768) (by decide) ha (by decide)
  obtain ⟨K2, h2⟩ := iroot ha
  rw [sqn_npow ha 15, ← hv] at h2
  clear hv
  refine ⟨K1 + K2, ?_⟩
  unfold laws_FnExactRootOf.f spec_RootOf.f impl_RootOf.f
  rw [h1 _ (by omega), h2 _ (by omega)]
  simp only [Option.bind_some, if_true]

end Go.Proofs.Ytenmcdnjbplnlaa.Pure
