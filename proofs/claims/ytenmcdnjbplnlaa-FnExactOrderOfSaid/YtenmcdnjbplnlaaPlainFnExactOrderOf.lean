/- The law FnExactOrderOf returns true for all arguments, as a statement on numbers and lists alone. -/
import Derived.Test.YtenmcdnjbplnlaaRFnExactOrderOfx1
import Derived.Test.YtenmcdnjbplnlaaN1
namespace Go.Proofs.Ytenmcdnjbplnlaa.Pure
open Go.RowKit Go.Proofs.Ytenmcdnjbplnlaa.RFnExactOrderOf Go.Proofs.YtenmcdnjbplnlaaW.PrintWords Go.Proofs.YtenmcdnjbplnlaaW.PrintLast Go.Proofs.YtenmcdnjbplnlaaW.PrintMore Go.Proofs.Ytenmcdnjbplnlaa.NimF Go.Proofs.Ytenmcdnjbplnlaa.NimGo Go.Proofs.Ytenmcdnjbplnlaa.Given
theorem st {a b : Nat} (ha : a < 65536) (hb : b < 65536) : spec_l01Times.f (a : Int) (b : Int) = some ((nm 4 a b : Nat) : Int) := nimTimes_nat ha hb

theorem it {a b : Nat} (ha : a < 65536) (hb : b < 65536) : impl_times.f (a : Int) (b : Int) = some ((nm 4 a b : Nat) : Int) := nimTimes_nat ha hb

theorem spow_ev : ∀ (N n : Nat), n ≤ N → n < 4611686018427387904 → ∀ (a o : Nat), a < 65536 → o < 65536 → Ev (fun k => spec_l01Power.l0 k (a : Int) (n : Int) (o : Int)) ((nm 4 o (npow a n) : Nat) : Int) := by
  intro N
  induction N with
  | zero =>
    intro n hn hb a o ha ho
    have : n = 0 := by omega
    subst this
    show Ev _ ((nm 4 o 1 : Nat) : Int)
    rw [nm4_one_right ho]
    exact Ev.step (f := fun _ => some (o : Int)) (fun k => by simp only [spec_l01Power.l0]; rw [if_neg (by omega)]) (Ev.now _)
  | succ N ih =>
    intro n hn hb a o ha ho
    by_cases hz : n = 0
    · exact ih n (by omega) hb a o ha ho
    have hm : Int.tmod (n : Int) 2 = ((n % 2 : Nat) : Int) := rfl
    have hd : wrap64 (Int.tdiv (n : Int) 2) = ((n / 2 : Nat) : Int) := by
      have : Int.tdiv (n : Int) 2 = ((n / 2 : Nat) : Int) := rfl
      rw [this]; unfold wrap64; omega
    by_cases ho2 : n % 2 = 1
    · have e := ih (n / 2) (by omega) (by omega) (nm 4 a a) (nm 4 o a) (nm4_lt _ _) (nm4_lt _ _)
      have hv : nm 4 o (npow a n) = nm 4 (nm 4 o a) (npow (nm 4 a a) (n / 2)) := by
        rw [npow_sq, nm_assoc]
        congr 1
        have : n = 2 * (n / 2) + 1 := by omega
        conv => lhs; rw [this]
        show nm 4 (npow a (2 * (n / 2))) a = _
        rw [nm_comm]
      rw [hv]
      refine Ev.step (f := fun k => spec_l01Power.l0 k ((nm 4 a a : Nat) : Int) ((n / 2 : Nat) : Int) ((nm 4 o a : Nat) : Int)) (fun k => ?_) e
      simp only [spec_l01Power.l0]
      rw [if_pos (by omega), hm, if_pos (by omega), st ho ha, st ha ha, hd]
      rfl
    · have e := ih (n / 2) (by omega) (by omega) (nm 4 a a) o (nm4_lt _ _) ho
      have hv : npow a n = npow (nm 4 a a) (n / 2) := by
        rw [npow_sq]
        congr 1
        omega
      rw [hv]
      refine Ev.step (f := fun k => spec_l01Power.l0 k ((nm 4 a a : Nat) : Int) ((n / 2 : Nat) : Int) (o : Int)) (fun k => ?_) e
      simp only [spec_l01Power.l0]
      rw [if_pos (by omega), hm, if_neg (by omega), st ha ha, hd]
      rfl
theorem spow {a n : Nat} {m : Int} (hm : m = (n : Int)) (ha : a < 65536) (hn : n < 4611686018427387904) : ∃ K, ∃ v : Nat, v = npow a n ∧ v < 65536 ∧ ∀ k, K ≤ k → spec_l01Power.f k (a : Int) m = some (v : Int) := by
  have e := spow_ev n n (Nat.le_refl _) hn a 1 ha (by decide)
  rw [nm4_one_left (npow_lt a n)] at e
  obtain ⟨K, e⟩ := e
  subst hm
  exact ⟨K, _, rfl, npow_lt a n, e⟩

theorem and_one {n : Nat} (h : n < 4611686018427387904) : Go.bits .and .i64 (n : Int) 1 = ((n % 2 : Nat) : Int) := by
  have := (bits_nat .i64 62 (by decide) (fun x h0 h1 => by simp [IntKind.wrap, IntKind.bits, IntKind.signed]; omega) n 1 h (by decide)).1
  rw [show ((1 : Nat) : Int) = 1 from rfl] at this
  rw [this, Nat.and_one_is_mod]
theorem ipow_ev : ∀ (N n : Nat), n ≤ N → n < 4611686018427387904 → ∀ (a o : Nat), a < 65536 → o < 65536 → Ev (fun k => impl_power.l0 k (a : Int) (n : Int) (o : Int)) ((nm 4 o (npow a n) : Nat) : Int) := by
  intro N
  induction N with
  | zero =>
    intro n hn hb a o ha ho
    have : n = 0 := by omega
    subst this
    show Ev _ ((nm 4 o 1 : Nat) : Int)
    rw [nm4_one_right ho]
    exact Ev.step (f := fun _ => some (o : Int)) (fun k => by simp only [impl_power.l0]; rw [if_neg (by omega)]) (Ev.now _)
  | succ N ih =>
    intro n hn hb a o ha ho
    by_cases hz : n = 0
    · exact ih n (by omega) hb a o ha ho
    have hd : (n : Int) / 2 = ((n / 2 : Nat) : Int) := by omega
    by_cases ho2 : n % 2 = 1
    · have e := ih (n / 2) (by omega) (by omega) (nm 4 a a) (nm 4 o a) (nm4_lt _ _) (nm4_lt _ _)
      have hv : nm 4 o (npow a n) = nm 4 (nm 4 o a) (npow (nm 4 a a) (n / 2)) := by
        rw [npow_sq, nm_assoc]
        congr 1
        have : n = 2 * (n / 2) + 1 := by omega
        conv => lhs; rw [this]
        show nm 4 (npow a (2 * (n / 2))) a = _
        rw [nm_comm]
      rw [hv]
      refine Ev.step (f := fun k => impl_power.l0 k ((nm 4 a a : Nat) : Int) ((n / 2 : Nat) : Int) ((nm 4 o a : Nat) : Int)) (fun k => ?_) e
      simp only [impl_power.l0]
      rw [if_pos (by omega), and_one hb, if_pos (by omega), it ho ha, it ha ha, hd]
      rfl
    · have e := ih (n / 2) (by omega) (by omega) (nm 4 a a) o (nm4_lt _ _) ho
      have hv : npow a n = npow (nm 4 a a) (n / 2) := by
        rw [npow_sq]
        congr 1
        omega
      rw [hv]
      refine Ev.step (f := fun k => impl_power.l0 k ((nm 4 a a : Nat) : Int) ((n / 2 : Nat) : Int) (o : Int)) (fun k => ?_) e
      simp only [impl_power.l0]
      rw [if_pos (by omega), and_one hb, if_neg (by omega), it ha ha, hd]
      rfl
theorem ipow {a n : Nat} {m : Int} (hm : m = (n : Int)) (ha : a < 65536) (hn : n < 4611686018427387904) : ∃ K, ∃ v : Nat, v = npow a n ∧ v < 65536 ∧ ∀ k, K ≤ k → impl_power.f k (a : Int) m = some (v : Int) := by
  have e := ipow_ev n n (Nat.le_refl _) hn a 1 ha (by decide)
  rw [nm4_one_left (npow_lt a n)] at e
  obtain ⟨K, e⟩ := e
  subst hm
  exact ⟨K, _, rfl, npow_lt a n, e⟩

/-- one step of the search for the order -/
def ord1 (a n p : Nat) : Nat := if npow a (n / p) = 1 then n / p else n
def ordN (a : Nat) : Nat := ord1 a (ord1 a (ord1 a (ord1 a 65535 3) 5) 17) 257
theorem ord1_le (a n p : Nat) : ord1 a n p ≤ n := by
  unfold ord1; split
  · exact Nat.div_le_self n p
  · exact Nat.le_refl _
theorem sord_step (a n : Nat) (m j : Int) (hm : m = (n : Int)) (ha : a < 65536) (hn : n ≤ 65535) (i : Nat) (hj : j = (i : Int)) (p : Nat) (hp : 0 < p) (hi : i < 4) (hr : ([3, 5, 17, 257] : List Int).getD i 0 = (p : Int)) (r : Int)
    (h : Ev (fun k => spec_l01Order.l0 k (a : Int) ((ord1 a n p : Nat) : Int) [3, 5, 17, 257] ((i + 1 : Nat) : Int)) r) : Ev (fun k => spec_l01Order.l0 k (a : Int) m [3, 5, 17, 257] j) r := by
  subst hm hj
  have hd : wrap64 (Int.tdiv (n : Int) (p : Int)) = ((n / p : Nat) : Int) := by
    have : Int.tdiv (n : Int) (p : Int) = ((n / p : Nat) : Int) := rfl
    have hle := Nat.div_le_self n p
    rw [this]
    generalize n / p = q at hle
    unfold wrap64; omega
  obtain ⟨K1, v, hv, _, h1⟩ := spow (a := a) (n := n / p) (m := ((n / p : Nat) : Int)) rfl ha (by have := Nat.div_le_self n p; omega)
  obtain ⟨K2, h2⟩ := h
  refine ⟨K1 + K2 + 1, fun k hk => ?_⟩
  obtain ⟨k, rfl⟩ : ∃ m, k = m + 1 := ⟨k - 1, by omega⟩
  simp only [spec_l01Order.l0]
  rw [if_pos (by simp only [List.length_cons, List.length_nil]; omega), if_pos (by omega), rd_nat, hr, if_neg (by omega), hd, h1 k (by omega), w64s (by omega), Option.bind_some]
  have h2 := h2 k (by omega)
  unfold ord1 at h2
  rw [← hv] at h2
  by_cases e : v = 1
  · rw [if_pos (by omega)]
    rw [if_pos e] at h2; exact h2
  · rw [if_neg (by omega)]
    rw [if_neg e] at h2; exact h2
theorem iord_step (a n : Nat) (m j : Int) (hm : m = (n : Int)) (ha : a < 65536) (hn : n ≤ 65535) (i : Nat) (hj : j = (i : Int)) (p : Nat) (hp : 0 < p) (hi : i < 4) (hr : ([3, 5, 17, 257] : List Int).getD i 0 = (p : Int)) (r : Int)
    (h : Ev (fun k => impl_order.l0 k (a : Int) ((ord1 a n p : Nat) : Int) [3, 5, 17, 257] 4 ((i + 1 : Nat) : Int)) r) : Ev (fun k => impl_order.l0 k (a : Int) m [3, 5, 17, 257] 4 j) r := by
  subst hm hj
  have hd : wrap64 (Int.tdiv (n : Int) (p : Int)) = ((n / p : Nat) : Int) := by
    have : Int.tdiv (n : Int) (p : Int) = ((n / p : Nat) : Int) := rfl
    have hle := Nat.div_le_self n p
    rw [this]
    generalize n / p = q at hle
    unfold wrap64; omega
  obtain ⟨K1, v, hv, _, h1⟩ := ipow (a := a) (n := n / p) (m := ((n / p : Nat) : Int)) rfl ha (by have := Nat.div_le_self n p; omega)
  obtain ⟨K2, h2⟩ := h
  refine ⟨K1 + K2 + 1, fun k hk => ?_⟩
  obtain ⟨k, rfl⟩ : ∃ m, k = m + 1 := ⟨k - 1, by omega⟩
  simp only [impl_order.l0]
  rw [if_pos (by omega), if_pos (by omega), if_pos (by simp only [List.length_cons, List.length_nil]; omega), rd_nat, hr, if_neg (by omega), hd, h1 k (by omega), w64s (by omega), Option.bind_some]
  have h2 := h2 k (by omega)
  unfold ord1 at h2
  rw [← hv] at h2
  by_cases e : v = 1
  · rw [if_pos (by omega)]
    rw [if_pos e] at h2; exact h2
  · rw [if_neg (by omega)]
    rw [if_neg e] at h2; exact h2
theorem sord_from (a N n1 n2 n3 n4 : Nat) (ha : a < 65536) (hN : N ≤ 65535) (h1 : ord1 a N 3 = n1) (h2 : ord1 a n1 5 = n2) (h3 : ord1 a n2 17 = n3) (h4 : ord1 a n3 257 = n4) :
    Ev (fun k => spec_l01Order.l0 k (a : Int) (N : Int) [3, 5, 17, 257] 0) (n4 : Int) := by
  have l1 := ord1_le a N 3
  have l2 := ord1_le a n1 5
  have l3 := ord1_le a n2 17
  have last : Ev (fun k => spec_l01Order.l0 k (a : Int) (n4 : Int) [3, 5, 17, 257] ((3 + 1 : Nat) : Int)) (n4 : Int) :=
    Ev.step (f := fun _ => some (n4 : Int)) (fun k => by simp only [spec_l01Order.l0]; rw [if_neg (by simp only [List.length_cons, List.length_nil]; omega)]) (Ev.now _)
  rw [← h4] at last
  have e3 := sord_step a n3 _ _ rfl ha (by omega) 3 rfl 257 (by omega) (by omega) rfl _ last
  rw [h4, ← h3] at e3
  have e2 := sord_step a n2 _ _ rfl ha (by omega) 2 rfl 17 (by omega) (by omega) rfl _ e3
  rw [← h2] at e2
  have e1 := sord_step a n1 _ _ rfl ha (by omega) 1 rfl 5 (by omega) (by omega) rfl _ e2
  rw [← h1] at e1
  exact sord_step a N _ 0 rfl ha (by omega) 0 (by omega) 3 (by omega) (by omega) rfl _ e1
theorem sord (a : Nat) (ha : a < 65536) : ∃ K, ∃ v : Nat, v = ordN a ∧ ∀ k, K ≤ k → spec_l01Order.f k (a : Int) = some (v : Int) := by
  obtain ⟨N, hN⟩ : ∃ N : Nat, N = 65535 := ⟨_, rfl⟩
  obtain ⟨K, h⟩ := sord_from a N _ _ _ _ ha (by omega) rfl rfl rfl rfl
  have hv : ordN a = ord1 a (ord1 a (ord1 a (ord1 a N 3) 5) 17) 257 := by unfold ordN; rw [hN]
  rw [← hv] at h
  have hi : (N : Int) = 65535 := by omega
  rw [hi] at h
  exact ⟨K, ordN a, rfl, fun k hk => by unfold spec_l01Order.f; exact h k hk⟩
theorem iord_from (a N n1 n2 n3 n4 : Nat) (ha : a < 65536) (hN : N ≤ 65535) (h1 : ord1 a N 3 = n1) (h2 : ord1 a n1 5 = n2) (h3 : ord1 a n2 17 = n3) (h4 : ord1 a n3 257 = n4) :
    Ev (fun k => impl_order.l0 k (a : Int) (N : Int) [3, 5, 17, 257] 4 0) (n4 : Int) := by
  have l1 := ord1_le a N 3
  have l2 := ord1_le a n1 5
  have l3 := ord1_le a n2 17
  have last : Ev (fun k => impl_order.l0 k (a : Int) (n4 : Int) [3, 5, 17, 257] 4 ((3 + 1 : Nat) : Int)) (n4 : Int) :=
    Ev.step (f := fun _ => some (n4 : Int)) (fun k => by simp only [impl_order.l0]; rw [if_neg (by omega)]) (Ev.now _)
  rw [← h4] at last
  have e3 := iord_step a n3 _ _ rfl ha (by omega) 3 rfl 257 (by omega) (by omega) rfl _ last
  rw [h4, ← h3] at e3
  have e2 := iord_step a n2 _ _ rfl ha (by omega) 2 rfl 17 (by omega) (by omega) rfl _ e3
  rw [← h2] at e2
  have e1 := iord_step a n1 _ _ rfl ha (by omega) 1 rfl 5 (by omega) (by omega) rfl _ e2
  rw [← h1] at e1
  exact iord_step a N _ 0 rfl ha (by omega) 0 (by omega) 3 (by omega) (by omega) rfl _ e1
theorem iord (a : Nat) (ha : a < 65536) : ∃ K, ∃ v : Nat, v = ordN a ∧ ∀ k, K ≤ k → impl_order.f k (a : Int) = some (v : Int) := by
  obtain ⟨N, hN⟩ : ∃ N : Nat, N = 65535 := ⟨_, rfl⟩
  obtain ⟨K, h⟩ := iord_from a N _ _ _ _ ha (by omega) rfl rfl rfl rfl
  have hv : ordN a = ord1 a (ord1 a (ord1 a (ord1 a N 3) 5) 17) 257 := by unfold ordN; rw [hN]
  rw [← hv] at h
  have hi : (N : Int) = 65535 := by omega
  rw [hi] at h
  exact ⟨K, ordN a, rfl, fun k hk => by unfold impl_order.f; rw [Option.bind_some]; exact h k hk⟩

theorem FnExactOrderOf : laws_FnExactOrderOf.Pure := by
  intro a0 h0
  obtain ⟨a, rfl, ha⟩ := wf_u16 h0
  by_cases hz : (a : Int) = 0
  · refine ⟨0, ?_⟩
    unfold laws_FnExactOrderOf.f spec_OrderOf.f impl_OrderOf.f
    rw [if_pos hz, if_pos hz]
    rfl
  · obtain ⟨K1, v, hv, h1⟩ := sord a ha
    obtain ⟨K2, v2, hv2, h2⟩ := iord a ha
    have hvv : v2 = v := hv2.trans hv.symm
    subst hvv
    clear hv hv2
    refine ⟨K1 + K2, ?_⟩
    unfold laws_FnExactOrderOf.f spec_OrderOf.f impl_OrderOf.f
    rw [if_neg hz, if_neg hz, h1 _ (by omega), h2 _ (by omega)]
    simp only [Option.bind_some, if_true]

end Go.Proofs.Ytenmcdnjbplnlaa.Pure
