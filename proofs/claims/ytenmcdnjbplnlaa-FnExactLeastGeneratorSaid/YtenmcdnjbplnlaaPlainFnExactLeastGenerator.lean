/- The law FnExactLeastGenerator returns true for all arguments, as a statement on numbers and lists alone. -/
import Derived.Test.YtenmcdnjbplnlaaRFnExactLeastGeneratorx1
import Derived.Test.YtenmcdnjbplnlaaN1
namespace Go.Proofs.Ytenmcdnjbplnlaa.Pure
open Go.RowKit Go.Proofs.Ytenmcdnjbplnlaa.RFnExactLeastGenerator Go.Proofs.YtenmcdnjbplnlaaW.PrintWords Go.Proofs.YtenmcdnjbplnlaaW.PrintLast Go.Proofs.YtenmcdnjbplnlaaW.PrintMore Go.Proofs.Ytenmcdnjbplnlaa.NimF Go.Proofs.Ytenmcdnjbplnlaa.NimGo Go.Proofs.Ytenmcdnjbplnlaa.Given
theorem st {a b : Nat} (ha : a < 65536) (hb : b < 65536) : spec_l01Times.f (a : Int) (b : Int) = some ((nm 4 a b : Nat) : Int) := nimTimes_nat ha hb

theorem it {a b : Nat} (ha : a < 65536) (hb : b < 65536) : impl_times.f (a : Int) (b : Int) = some ((nm 4 a b : Nat) : Int) := nimTimes_nat ha hb

theorem spow_ev : ∀ (N n : Nat), n ≤ N → n < 4611686018427387904 → ∀ (a o : Nat), a < 65536 → o < 65536 → Ev (fun k => spec_l01Power.l0 k (a : Int) (n : Int) (o : Int)) ((nm 4 o (npow a n) : Nat) : Int) := by
  intro N
  induction N with
  | zero =>
    intro n hn hb a o ha ho
    have : n = 0 := by omega
    subst this
    show Ev _ ((nm 4 o 1 : Nat) : Int)
    rw [nm4_one_right ho]
    exact Ev.step (f := fun _ => some (o : Int)) (fun k => by simp only [spec_l01Power.l0]; rw [if_neg (by omega)]) (Ev.now _)
  | succ N ih =>
    intro n hn hb a o ha ho
    by_cases hz : n = 0
    · exact ih n (by omega) hb a o ha ho
    have hm : Int.tmod (n : Int) 2 = ((n % 2 : Nat) : Int) := rfl
    have hd : wrap64 (Int.tdiv (n : Int) 2) = ((n / 2 : Nat) : Int) := by
      have : Int.tdiv (n : Int) 2 = ((n / 2 : Nat) : Int) := rfl
      rw [this]; unfold wrap64; omega
    by_cases ho2 : n % 2 = 1
    · have e := ih (n / 2) (by omega) (by omega) (nm 4 a a) (nm 4 o a) (nm4_lt _ _) (nm4_lt _ _)
      have hv : nm 4 o (npow a n) = nm 4 (nm 4 o a) (npow (nm 4 a a) (n / 2)) := by
        rw [npow_sq, nm_assoc]
        congr 1
        have : n = 2 * (n / 2) + 1 := by omega
        conv => lhs; rw [this]
        show nm 4 (npow a (2 * (n / 2))) a = _
        rw [nm_comm]
      rw [hv]
      refine Ev.step (f := fun k => spec_l01Power.l0 k ((nm 4 a a : Nat) : Int) ((n / 2 : Nat) : Int) ((nm 4 o a : Nat) : Int)) (fun k => ?_) e
      simp only [spec_l01Power.l0]
      rw [if_pos (by omega), hm, if_pos (by omega), st ho ha, st ha ha, hd]
      rfl
    · have e := ih (n / 2) (by omega) (by omega) (nm 4 a a) o (nm4_lt _ _) ho
      have hv : npow a n = npow (nm 4 a a) (n / 2) := by
        rw [npow_sq]
        congr 1
        omega
      rw [hv]
      refine Ev.step (f := fun k => spec_l01Power.l0 k ((nm 4 a a : Nat) : Int) ((n / 2 : Nat) : Int) (o : Int)) (fun k => ?_) e
      simp only [spec_l01Power.l0]
      rw [if_pos (by omega), hm, if_neg (by omega), st ha ha, hd]
      rfl
theorem spow {a n : Nat} {m : Int} (hm : m = (n : Int)) (ha : a < 65536) (hn : n < 4611686018427387904) : ∃ K, ∃ v : Nat, v = npow a n ∧ v < 65536 ∧ ∀ k, K ≤ k → spec_l01Power.f k (a : Int) m = some (v : Int) := by
  have e := spow_ev n n (Nat.le_refl _) hn a 1 ha (by decide)
  rw [nm4_one_left (npow_lt a n)] at e
  obtain ⟨K, e⟩ := e
  subst hm
  exact ⟨K, _, rfl, npow_lt a n, e⟩

theorem and_one {n : Nat} (h : n < 4611686018427387904) : Go.bits .and .i64 (n : Int) 1 = ((n % 2 : Nat) : Int) := by
  have := (bits_nat .i64 62 (by decide) (fun x h0 h1 => by simp [IntKind.wrap, IntKind.bits, IntKind.signed]; omega) n 1 h (by decide)).1
  rw [show ((1 : Nat) : Int) = 1 from rfl] at this
  rw [this, Nat.and_one_is_mod]
theorem ipow_ev : ∀ (N n : Nat), n ≤ N → n < 4611686018427387904 → ∀ (a o : Nat), a < 65536 → o < 65536 → Ev (fun k => impl_power.l0 k (a : Int) (n : Int) (o : Int)) ((nm 4 o (npow a n) : Nat) : Int) := by
  intro N
  induction N with
  | zero =>
    intro n hn hb a o ha ho
    have : n = 0 := by omega
    subst this
    show Ev _ ((nm 4 o 1 : Nat) : Int)
    rw [nm4_one_right ho]
    exact Ev.step (f := fun _ => some (o : Int)) (fun k => by simp only [impl_power.l0]; rw [if_neg (by omega)]) (Ev.now _)
  | succ N ih =>
    intro n hn hb a o ha ho
    by_cases hz : n = 0
    · exact ih n (by omega) hb a o ha ho
    have hd : (n : Int) / 2 = ((n / 2 : Nat) : Int) := by omega
    by_cases ho2 : n % 2 = 1
    · have e := ih (n / 2) (by omega) (by omega) (nm 4 a a) (nm 4 o a) (nm4_lt _ _) (nm4_lt _ _)
      have hv : nm 4 o (npow a n) = nm 4 (nm 4 o a) (npow (nm 4 a a) (n / 2)) := by
        rw [npow_sq, nm_assoc]
        congr 1
        have : n = 2 * (n / 2) + 1 := by omega
        conv => lhs; rw [this]
        show nm 4 (npow a (2 * (n / 2))) a = _
        rw [nm_comm]
      rw [hv]
      refine Ev.step (f := fun k => impl_power.l0 k ((nm 4 a a : Nat) : Int) ((n / 2 : Nat) : Int) ((nm 4 o a : Nat) : Int)) (fun k => ?_) e
      simp only [impl_power.l0]
      rw [if_pos (by omega), and_one hb, if_pos (by omega), it ho ha, it ha ha, hd]
      rfl
    · have e := ih (n / 2) (by omega) (by omega) (nm 4 a a) o (nm4_lt _ _) ho
      have hv : npow a n = npow (nm 4 a a) (n / 2) := by
        rw [npow_sq]
        congr 1
        omega
      rw [hv]
      refine Ev.step (f := fun k => impl_power.l0 k ((nm 4 a a : Nat) : Int) ((n / 2 : Nat) : Int) (o : Int)) (fun k => ?_) e
      simp only [impl_power.l0]
      rw [if_pos (by omega), and_one hb, if_neg (by omega), it ha ha, hd]
      rfl
theorem ipow {a n : Nat} {m : Int} (hm : m = (n : Int)) (ha : a < 65536) (hn : n < 4611686018427387904) : ∃ K, ∃ v : Nat, v = npow a n ∧ v < 65536 ∧ ∀ k, K ≤ k → impl_power.f k (a : Int) m = some (v : Int) := by
  have e := ipow_ev n n (Nat.le_refl _) hn a 1 ha (by decide)
  rw [nm4_one_left (npow_lt a n)] at e
  obtain ⟨K, e⟩ := e
  subst hm
  exact ⟨K, _, rfl, npow_lt a n, e⟩

/-- one step of the search for the order -/
def ord1 (a n p : Nat) : Nat := if npow a (n / p) = 1 then n / p else n
def ordN (a : Nat) : Nat := ord1 a (ord1 a (ord1 a (ord1 a 65535 3) 5) 17) 257
theorem ord1_le (a n p : Nat) : ord1 a n p ≤ n := by
  unfold ord1; split
  · exact Nat.div_le_self n p
  · exact Nat.le_refl _
theorem sord_step (a n : Nat) (m j : Int) (hm : m = (n : Int)) (ha : a < 65536) (hn : n ≤ 65535) (i : Nat) (hj : j = (i : Int)) (p : Nat) (hp : 0 < p) (hi : i < 4) (hr : ([3, 5, 17, 257] : List Int).getD i 0 = (p : Int)) (r : Int)
    (h : Ev (fun k => spec_l01Order.l0 k (a : Int) ((ord1 a n p : Nat) : Int) [3, 5, 17, 257] ((i + 1 : Nat) : Int)) r) : Ev (fun k => spec_l01Order.l0 k (a : Int) m [3, 5, 17, 257] j) r := by
  subst hm hj
  have hd : wrap64 (Int.tdiv (n : Int) (p : Int)) = ((n / p : Nat) : Int) := by
    have : Int.tdiv (n : Int) (p : Int) = ((n / p : Nat) : Int) := rfl
    have hle := Nat.div_le_self n p
    rw [this]
    generalize n / p = q at hle
    unfold wrap64; omega
  obtain ⟨K1, v, hv, _, h1⟩ := spow (a := a) (n := n / p) (m := ((n / p : Nat) : Int)) rfl ha (by have := Nat.div_le_self n p; omega)
  obtain ⟨K2, h2⟩ := h
  refine ⟨K1 + K2 + 1, fun k hk => ?_⟩
  obtain ⟨k, rfl⟩ : ∃ m, k = m + 1 := ⟨k - 1, by omega⟩
  simp only [spec_l01Order.l0]
  rw [if_pos (by simp only [List.length_cons, List.length_nil]; omega), if_pos (by omega), rd_nat, hr, if_neg (by omega), hd, h1 k (by omega), w64s (by omega), Option.bind_some]
  have h2 := h2 k (by omega)
  unfold ord1 at h2
  rw [← hv] at h2
  by_cases e : v = 1
  · rw [if_pos (by omega)]
    rw [if_pos e] at h2; exact h2
  · rw [if_neg (by omega)]
    rw [if_neg e] at h2; exact h2
theorem iord_step (a n : Nat) (m j : Int) (hm : m = (n : Int)) (ha : a < 65536) (hn : n ≤ 65535) (i : Nat) (hj : j = (i : Int)) (p : Nat) (hp : 0 < p) (hi : i < 4) (hr : ([3, 5, 17, 257] : List Int).getD i 0 = (p : Int)) (r : Int)
    (h : Ev (fun k => impl_order.l0 k (a : Int) ((ord1 a n p : Nat) : Int) [3, 5, 17, 257] 4 ((i + 1 : Nat) : Int)) r) : Ev (fun k => impl_order.l0 k (a : Int) m [3, 5, 17, 257] 4 j) r := by
  subst hm hj
  have hd : wrap64 (Int.tdiv (n : Int) (p : Int)) = ((n / p : Nat) : Int) := by
    have : Int.tdiv (n : Int) (p : Int) = ((n / p : Nat) : Int) := rfl
    have hle := Nat.div_le_self n p
    rw [this]
    generalize n / p = q at hle
    unfold wrap64; omega
  obtain ⟨K1, v, hv, _, h1⟩ := ipow (a := a) (n := n / p) (m := ((n / p : Nat) : Int)) rfl ha (by have := Nat.div_le_self n p; omega)
  obtain ⟨K2, h2⟩ := h
  refine ⟨K1 + K2 + 1, fun k hk => ?_⟩
  obtain ⟨k, rfl⟩ : ∃ m, k = m + 1 := ⟨k - 1, by omega⟩
  simp only [impl_order.l0]
  rw [if_pos (by omega), if_pos (by omega), if_pos (by simp only [List.length_cons, List.length_nil]; omega), rd_nat, hr, if_neg (by omega), hd, h1 k (by omega), w64s (by omega), Option.bind_some]
  have h2 := h2 k (by omega)
  unfold ord1 at h2
  rw [← hv] at h2
  by_cases e : v = 1
  · rw [if_pos (by omega)]
    rw [if_pos e] at h2; exact h2
  · rw [if_neg (by omega)]
    rw [if_neg e] at h2; exact h2
theorem sord_from (a N n1 n2 n3 n4 : Nat) (ha : a < 65536) (hN : N ≤ 65535) (h1 : ord1 a N 3 = n1) (h2 : ord1 a n1 5 = n2) (h3 : ord1 a n2 17 = n3) (h4 : ord1 a n3 257 = n4) :
    Ev (fun k => spec_l01Order.l0 k (a : Int) (N : Int) [3, 5, 17, 257] 0) (n4 : Int) := by
  have l1 := ord1_le a N 3
  have l2 := ord1_le a n1 5
  have l3 := ord1_le a n2 17
  have last : Ev (fun k => spec_l01Order.l0 k (a : Int) (n4 : Int) [3, 5, 17, 257] ((3 + 1 : Nat) : Int)) (n4 : Int) :=
    Ev.step (f := fun _ => some (n4 : Int)) (fun k => by simp only [spec_l01Order.l0]; rw [if_neg (by simp only [List.length_cons, List.length_nil]; omega)]) (Ev.now _)
  rw [← h4] at last
  have e3 := sord_step a n3 _ _ rfl ha (by omega) 3 rfl 257 (by omega) (by omega) rfl _ last
  rw [h4, ← h3] at e3
  have e2 := sord_step a n2 _ _ rfl ha (by omega) 2 rfl 17 (by omega) (by omega) rfl _ e3
  rw [← h2] at e2
  have e1 := sord_step a n1 _ _ rfl ha (by omega) 1 rfl 5 (by omega) (by omega) rfl _ e2
  rw [← h1] at e1
  exact sord_step a N _ 0 rfl ha (by omega) 0 (by omega) 3 (by omega) (by omega) rfl _ e1
theorem sord (a : Nat) (ha : a < 65536) : ∃ K, ∃ v : Nat, v = ordN a ∧ ∀ k, K ≤ k → spec_l01Order.f k (a : Int) = some (v : Int) := by
  obtain ⟨N, hN⟩ : ∃ N : Nat, N = 65535 := ⟨_, rfl⟩
  obtain ⟨K, h⟩ := sord_from a N _ _ _ _ ha (by omega) rfl rfl rfl rfl
  have hv : ordN a = ord1 a (ord1 a (ord1 a (ord1 a N 3) 5) 17) 257 := by unfold ordN; rw [hN]
  rw [← hv] at h
  have hi : (N : Int) = 65535 := by omega
  rw [hi] at h
  exact ⟨K, ordN a, rfl, fun k hk => by unfold spec_l01Order.f; exact h k hk⟩
theorem iord_from (a N n1 n2 n3 n4 : Nat) (ha : a < 65536) (hN : N ≤ 65535) (h1 : ord1 a N 3 = n1) (h2 : ord1 a n1 5 = n2) (h3 : ord1 a n2 17 = n3) (h4 : ord1 a n3 257 = n4) :
    Ev (fun k => impl_order.l0 k (a : Int) (N : Int) [3, 5, 17, 257] 4 0) (n4 : Int) := by
  have l1 := ord1_le a N 3
  have l2 := ord1_le a n1 5
  have l3 := ord1_le a n2 17
  have last : Ev (fun k => impl_order.l0 k (a : Int) (n4 : Int) [3, 5, 17, 257] 4 ((3 + 1 : Nat) : Int)) (n4 : Int) :=
    Ev.step (f := fun _ => some (n4 : Int)) (fun k => by simp only [impl_order.l0]; rw [if_neg (by omega)]) (Ev.now _)
  rw [← h4] at last
  have e3 := iord_step a n3 _ _ rfl ha (by omega) 3 rfl 257 (by omega) (by omega) rfl _ last
  rw [h4, ← h3] at e3
  have e2 := iord_step a n2 _ _ rfl ha (by omega) 2 rfl 17 (by omega) (by omega) rfl _ e3
  rw [← h2] at e2
  have e1 := iord_step a n1 _ _ rfl ha (by omega) 1 rfl 5 (by omega) (by omega) rfl _ e2
  rw [← h1] at e1
  exact iord_step a N _ 0 rfl ha (by omega) 0 (by omega) 3 (by omega) (by omega) rfl _ e1
theorem iord (a : Nat) (ha : a < 65536) : ∃ K, ∃ v : Nat, v = ordN a ∧ ∀ k, K ≤ k → impl_order.f k (a : Int) = some (v : Int) := by
  obtain ⟨N, hN⟩ : ∃ N : Nat, N = 65535 := ⟨_, rfl⟩
  obtain ⟨K, h⟩ := iord_from a N _ _ _ _ ha (by omega) rfl rfl rfl rfl
  have hv : ordN a = ord1 a (ord1 a (ord1 a (ord1 a N 3) 5) 17) 257 := by unfold ordN; rw [hN]
  rw [← hv] at h
  have hi : (N : Int) = 65535 := by omega
  rw [hi] at h
  exact ⟨K, ordN a, rfl, fun k hk => by unfold impl_order.f; rw [Option.bind_some]; exact h k hk⟩

/-- powers by squares, to be reckoned -/
def npf : Nat → Nat → Nat → Nat → Nat
  | 0, _, _, o => o
  | f + 1, a, n, o => if n = 0 then o else npf f (nm 4 a a) (n / 2) (if n % 2 = 1 then nm 4 o a else o)
theorem npf_eq : ∀ f a n o, n < 2 ^ f → o < 65536 → npf f a n o = nm 4 o (npow a n) := by
  intro f
  induction f with
  | zero =>
    intro a n o hn ho
    have : n = 0 := by simpa using hn
    subst this
    exact (nm4_one_right ho).symm
  | succ f ih =>
    intro a n o hn ho
    by_cases hz : n = 0
    · subst hz
      show o = nm 4 o 1
      exact (nm4_one_right ho).symm
    · have hlt : n / 2 < 2 ^ f := by rw [Nat.pow_succ] at hn; omega
      show (if n = 0 then o else npf f (nm 4 a a) (n / 2) (if n % 2 = 1 then nm 4 o a else o)) = _
      rw [if_neg hz]
      by_cases h2 : n % 2 = 1
      · rw [if_pos h2, ih _ _ _ hlt (nm4_lt _ _), npow_sq, nm_assoc]
        congr 1
        have : n = 2 * (n / 2) + 1 := by omega
        conv => rhs; rw [this]
        show _ = nm 4 (npow a (2 * (n / 2))) a
        rw [nm_comm]
      · rw [if_neg h2, ih _ _ _ hlt ho, npow_sq]
        congr 2
        omega
def of1 (a n p : Nat) : Nat := if npf 20 a (n / p) 1 = 1 then n / p else n
def ordF (a : Nat) : Nat := of1 a (of1 a (of1 a (of1 a 65535 3) 5) 17) 257
theorem of1_eq (a n p : Nat) (hn : n ≤ 65535) : of1 a n p = ord1 a n p := by
  have hle := Nat.div_le_self n p
  unfold of1 ord1
  rw [npf_eq 20 a (n / p) 1 (by omega) (by omega), nm4_one_left (npow_lt _ _)]
theorem ordF_eq (a : Nat) : ordF a = ordN a := by
  unfold ordF ordN
  obtain ⟨N, hN⟩ : ∃ N : Nat, N = 65535 := ⟨_, rfl⟩
  rw [← hN]
  have l1 := ord1_le a N 3
  have l2 := ord1_le a (ord1 a N 3) 5
  have l3 := ord1_le a (ord1 a (ord1 a N 3) 5) 17
  rw [of1_eq a N 3 (by omega), of1_eq a _ 5 (by omega), of1_eq a _ 17 (by omega), of1_eq a _ 257 (by omega)]
/-- the orders of the first numbers -/
def ordT : List Nat := [65535, 1, 3, 3, 15, 15, 15, 15, 5, 15, 5, 15, 15, 5, 5, 15, 85, 85, 255]
theorem ordT_eq : ∀ i, i < 19 → ordF i = ordT.getD i 0 := by decide +kernel
theorem ord256 : ordF 256 = 21845 := by decide +kernel
theorem ord257 : ordF 257 = 21845 := by decide +kernel
theorem ord258 : ordF 258 = 65535 := by decide +kernel
/-- no number of 8 bits has the greatest order -/
theorem ord_small {a : Nat} (h0 : 0 < a) (h : a < 256) : ordN a < 65535 := by
  obtain ⟨N, hN⟩ : ∃ N : Nat, N = 65535 := ⟨_, rfl⟩
  have e : ordN a = ord1 a (ord1 a (ord1 a (ord1 a N 3) 5) 17) 257 := by unfold ordN; rw [hN]
  have l1 := ord1_le a N 3
  have l2 := ord1_le a (ord1 a N 3) 5
  have l3 := ord1_le a (ord1 a (ord1 a N 3) 5) 17
  have l4 := ord1_le a (ord1 a (ord1 a (ord1 a N 3) 5) 17) 257
  rcases Nat.lt_or_ge (ord1 a (ord1 a (ord1 a N 3) 5) 17) 65535 with c | c
  · omega
  · have e3 : ord1 a (ord1 a (ord1 a N 3) 5) 17 = 65535 := by omega
    rw [e, e3]
    unfold ord1
    rw [show (65535 : Nat) / 257 = 255 from rfl, if_pos (npow_255 h0 h)]
    omega
theorem ord1_ge (a n p m : Nat) (h : m * p ≤ n) (hp : 0 < p) : m ≤ ord1 a n p := by
  unfold ord1; split
  · exact (Nat.le_div_iff_mul_le hp).2 h
  · exact Nat.le_trans (Nat.le_mul_of_pos_right m hp) h
theorem ordN_pos (a : Nat) : 0 < ordN a := by
  obtain ⟨N, hN⟩ : ∃ N : Nat, N = 65535 := ⟨_, rfl⟩
  have e : ordN a = ord1 a (ord1 a (ord1 a (ord1 a N 3) 5) 17) 257 := by unfold ordN; rw [hN]
  have l1 := ord1_ge a N 3 21845 (by omega) (by omega)
  have l2 := ord1_ge a (ord1 a N 3) 5 4369 (by omega) (by omega)
  have l3 := ord1_ge a (ord1 a (ord1 a N 3) 5) 17 257 (by omega) (by omega)
  have l4 := ord1_ge a (ord1 a (ord1 a (ord1 a N 3) 5) 17) 257 1 (by omega) (by omega)
  omega
theorem ordT_at {i : Nat} (h : i < 19) : ordN i = ordT.getD i 0 := by rw [← ordF_eq]; exact ordT_eq i h

theorem sin (a b c : Int) : spec_l00In.f a b c = some (decide (b ≤ a ∧ a ≤ c)) := by
  unfold spec_l00In.f
  by_cases h : a ≥ b
  · rw [if_pos h]; congr 1; rw [Bool.eq_iff_iff]; simp only [decide_eq_true_eq]; omega
  · rw [if_neg h]; congr 1; symm; exact decide_eq_false (by omega)
theorem iin (a b c : Int) : impl_within.f a b c = some (decide (b ≤ a ∧ a ≤ c)) := by
  unfold impl_within.f
  by_cases h : b ≤ a
  · rw [if_pos h]; congr 1; rw [Bool.eq_iff_iff]; simp only [decide_eq_true_eq]; omega
  · rw [if_neg h]; congr 1; symm; exact decide_eq_false (by omega)

theorem sgen (n g : Nat) (hn : n ≤ 65535) (h1n : 1 ≤ n) (hg : g < 65535) (x4 : Int) (hx : x4 = (n : Int) + 1) (no : ∀ y, 2 ≤ y → y < g → ordN y % n ≠ 0) (yes : ordN g % n = 0) : ∀ (d x : Nat) (xi : Int), xi = (x : Int) → x + d = g → 2 ≤ x → Ev (fun k => spec_LeastGenerator.l0 k x4 xi) ((g : Int), 0) := by
  have hw : wrap64 (x4 - 1) = (n : Int) := by unfold wrap64; omega
  intro d
  induction d with
  | zero =>
    intro x xi hxi hd h2
    have : x = g := by omega
    subst this hxi
    obtain ⟨K, v, hv, h⟩ := sord x (by omega)
    refine ⟨K + 1, fun k hk => ?_⟩
    obtain ⟨k, rfl⟩ : ∃ m, k = m + 1 := ⟨k - 1, by omega⟩
    have ht : Int.tmod (v : Int) (n : Int) = ((v % n : Nat) : Int) := rfl
    simp only [spec_LeastGenerator.l0]
    rw [h k (by omega), Option.bind_some, hw, if_neg (by omega), ht, hv, yes, if_pos (by rfl)]
  | succ d ih =>
    intro x xi hxi hd h2
    subst hxi
    obtain ⟨K, v, hv, h⟩ := sord x (by omega)
    obtain ⟨K2, e⟩ := ih (x + 1) (IntKind.u16.wrap ((x : Int) + 1)) (by rw [show (x : Int) + 1 = ((x + 1 : Nat) : Int) by omega, wraps16n (by omega)]) (by omega) (by omega)
    refine ⟨K + K2 + 1, fun k hk => ?_⟩
    obtain ⟨k, rfl⟩ : ∃ m, k = m + 1 := ⟨k - 1, by omega⟩
    have ht : Int.tmod (v : Int) (n : Int) = ((v % n : Nat) : Int) := rfl
    have hno := no x h2 (by omega)
    rw [← hv] at hno
    simp only [spec_LeastGenerator.l0]
    rw [h k (by omega), Option.bind_some, hw, if_neg (by omega), ht, if_neg (by omega)]
    exact e k (by omega)
theorem igen (n g : Nat) (hn : n ≤ 65535) (hg : g < 65535) (x4 : Int) (hx : x4 = (n : Int)) (no : ∀ y, 1 ≤ y → y < g → ordN y ≠ n) (yes : ordN g = n) : ∀ (d x : Nat) (xi : Int), xi = (x : Int) → x + d = g → 1 ≤ x → Ev (fun k => impl_LeastGenerator.l0 k x4 xi) ((g : Int), 0) := by
  intro d
  induction d with
  | zero =>
    intro x xi hxi hd h2
    have : x = g := by omega
    subst this hxi
    obtain ⟨K, v, hv, h⟩ := iord x (by omega)
    refine ⟨K + 1, fun k hk => ?_⟩
    obtain ⟨k, rfl⟩ : ∃ m, k = m + 1 := ⟨k - 1, by omega⟩
    simp only [impl_LeastGenerator.l0]
    rw [h k (by omega), Option.bind_some, if_pos (by omega)]
  | succ d ih =>
    intro x xi hxi hd h2
    subst hxi
    obtain ⟨K, v, hv, h⟩ := iord x (by omega)
    obtain ⟨K2, e⟩ := ih (x + 1) (IntKind.u16.wrap ((x : Int) + 1)) (by rw [show (x : Int) + 1 = ((x + 1 : Nat) : Int) by omega, wraps16n (by omega)]) (by omega) (by omega)
    refine ⟨K + K2 + 1, fun k hk => ?_⟩
    obtain ⟨k, rfl⟩ : ∃ m, k = m + 1 := ⟨k - 1, by omega⟩
    have hno := no x h2 (by omega)
    simp only [impl_LeastGenerator.l0]
    rw [h k (by omega), Option.bind_some, if_neg (by omega)]
    exact e k (by omega)
theorem gens (n g : Nat) (h : (n = 3 ∧ g = 2) ∨ (n = 15 ∧ g = 4) ∨ (n = 255 ∧ g = 18) ∨ (n = 65535 ∧ g = 258)) : (∀ y, 1 ≤ y → y < g → ordN y % n ≠ 0) ∧ ordN g = n := by
  rcases h with ⟨hn, hg⟩ | ⟨hn, hg⟩ | ⟨hn, hg⟩ | ⟨hn, hg⟩
  · refine ⟨fun y h1 h2 => ?_, by rw [hg, ordT_at (by omega), hn]; rfl⟩
    have : ∀ y, y < 2 → 1 ≤ y → ordT.getD y 0 % 3 ≠ 0 := by decide
    rw [ordT_at (by omega), hn]; exact this y (by omega) h1
  · refine ⟨fun y h1 h2 => ?_, by rw [hg, ordT_at (by omega), hn]; rfl⟩
    have : ∀ y, y < 4 → 1 ≤ y → ordT.getD y 0 % 15 ≠ 0 := by decide
    rw [ordT_at (by omega), hn]; exact this y (by omega) h1
  · refine ⟨fun y h1 h2 => ?_, by rw [hg, ordT_at (by omega), hn]; rfl⟩
    have : ∀ y, y < 18 → 1 ≤ y → ordT.getD y 0 % 255 ≠ 0 := by decide
    rw [ordT_at (by omega), hn]; exact this y (by omega) h1
  · refine ⟨fun y h1 h2 => ?_, by rw [hg, ← ordF_eq, ord258, hn]⟩
    have hp := ordN_pos y
    have hlt : ordN y < 65535 := by
      by_cases h : y < 256
      · exact ord_small (by omega) h
      · have : y = 256 ∨ y = 257 := by omega
        rcases this with e | e
        · rw [e, ← ordF_eq, ord256]; omega
        · rw [e, ← ordF_eq, ord257]; omega
    rw [Nat.mod_eq_of_lt (by omega)]
    omega
theorem levels {a0 : Int} (h : 1 ≤ a0 ∧ a0 ≤ 4) : ∃ n g : Nat, ((n = 3 ∧ g = 2) ∨ (n = 15 ∧ g = 4) ∨ (n = 255 ∧ g = 18) ∨ (n = 65535 ∧ g = 258)) ∧ shl .i64 1 (shl .u64 1 (IntKind.u64.wrap a0)) = (n : Int) + 1 ∧ wrap64 ((shl .i64 1 (shl .u64 1 a0)) - 1) = (n : Int) ∧ 0 ≤ IntKind.u64.wrap a0 := by
  have : a0 = 1 ∨ a0 = 2 ∨ a0 = 3 ∨ a0 = 4 := by omega
  rcases this with rfl | rfl | rfl | rfl
  · exact ⟨3, 2, .inl ⟨rfl, rfl⟩, by decide, (by rw [show shl .i64 1 (shl .u64 1 1) = 4 by decide]; unfold wrap64; omega), by decide⟩
  · exact ⟨15, 4, .inr (.inl ⟨rfl, rfl⟩), by decide, (by rw [show shl .i64 1 (shl .u64 1 2) = 16 by decide]; unfold wrap64; omega), by decide⟩
  · exact ⟨255, 18, .inr (.inr (.inl ⟨rfl, rfl⟩)), by decide, (by rw [show shl .i64 1 (shl .u64 1 3) = 256 by decide]; unfold wrap64; omega), by decide⟩
  · exact ⟨65535, 258, .inr (.inr (.inr ⟨rfl, rfl⟩)), by decide, (by rw [show shl .i64 1 (shl .u64 1 4) = 65536 by decide]; unfold wrap64; omega), by decide⟩
theorem FnExactLeastGenerator : laws_FnExactLeastGenerator.Pure := by
  intro a0 _
  unfold laws_FnExactLeastGenerator.f spec_LeastGenerator.f impl_LeastGenerator.f
  simp only [sin, iin, Option.bind_some]
  by_cases hi : 1 ≤ a0 ∧ a0 ≤ 4
  · obtain ⟨n, g, hng, e1, e2, e3⟩ := levels hi
    obtain ⟨hno, hyes⟩ := gens n g hng
    obtain ⟨K1, h1⟩ := sgen n g (by omega) (by omega) (by omega) _ e1 (fun y h1 h2 => hno y (by omega) h2) (by rw [hyes]; exact Nat.mod_self n) (g - 2) 2 2 rfl (by omega) (by omega)
    obtain ⟨K2, h2⟩ := igen n g (by omega) (by omega) _ e2 (fun y h1 h2 he => hno y h1 h2 (by rw [he]; exact Nat.mod_self n)) hyes (g - 1) 1 1 rfl (by omega) (by omega)
    refine ⟨K1 + K2, ?_⟩
    have g1 := h1 (K1 + K2) (by omega)
    have g2 := h2 (K1 + K2) (by omega)
    simp only at g1 g2
    rw [if_pos (decide_eq_true hi), if_pos e3, g1, Option.bind_some, if_pos (decide_eq_true hi), if_pos (by omega), g2, Option.bind_some, if_pos rfl, if_pos rfl]
  · refine ⟨0, ?_⟩
    simp only [hi, decide_false, Bool.false_eq_true, if_false, Option.bind_some, if_true]

end Go.Proofs.Ytenmcdnjbplnlaa.Pure
