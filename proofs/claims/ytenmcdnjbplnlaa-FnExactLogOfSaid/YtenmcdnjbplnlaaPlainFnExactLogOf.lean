/- The law FnExactLogOf returns true for all arguments, as a statement on numbers and lists alone. -/
import Derived.Test.YtenmcdnjbplnlaaRFnExactLogOfx1
import Derived.Test.YtenmcdnjbplnlaaN1
namespace Go.Proofs.Ytenmcdnjbplnlaa.Pure
open Go.RowKit Go.Proofs.Ytenmcdnjbplnlaa.RFnExactLogOf Go.Proofs.YtenmcdnjbplnlaaW.PrintWords Go.Proofs.YtenmcdnjbplnlaaW.PrintLast Go.Proofs.YtenmcdnjbplnlaaW.PrintMore Go.Proofs.Ytenmcdnjbplnlaa.NimF Go.Proofs.Ytenmcdnjbplnlaa.NimGo Go.Proofs.Ytenmcdnjbplnlaa.Given
theorem st {a b : Nat} (ha : a < 65536) (hb : b < 65536) : spec_l01Times.f (a : Int) (b : Int) = some ((nm 4 a b : Nat) : Int) := nimTimes_nat ha hb

theorem it {a b : Nat} (ha : a < 65536) (hb : b < 65536) : impl_times.f (a : Int) (b : Int) = some ((nm 4 a b : Nat) : Int) := nimTimes_nat ha hb

theorem spow_ev : ∀ (N n : Nat), n ≤ N → n < 4611686018427387904 → ∀ (a o : Nat), a < 65536 → o < 65536 → Ev (fun k => spec_l01Power.l0 k (a : Int) (n : Int) (o : Int)) ((nm 4 o (npow a n) : Nat) : Int) := by
  intro N
  induction N with
  | zero =>
    intro n hn hb a o ha ho
    have : n = 0 := by omega
    subst this
    show Ev _ ((nm 4 o 1 : Nat) : Int)
    rw [nm4_one_right ho]
    exact Ev.step (f := fun _ => some (o : Int)) (fun k => by simp only [spec_l01Power.l0]; rw [if_neg (by omega)]) (Ev.now _)
  | succ N ih =>
    intro n hn hb a o ha ho
    by_cases hz : n = 0
    · exact ih n (by omega) hb a o ha ho
    have hm : Int.tmod (n : Int) 2 = ((n % 2 : Nat) : Int) := rfl
    have hd : wrap64 (Int.tdiv (n : Int) 2) = ((n / 2 : Nat) : Int) := by
      have : Int.tdiv (n : Int) 2 = ((n / 2 : Nat) : Int) := rfl
      rw [this]; unfold wrap64; omega
    by_cases ho2 : n % 2 = 1
    · have e := ih (n / 2) (by omega) (by omega) (nm 4 a a) (nm 4 o a) (nm4_lt _ _) (nm4_lt _ _)
      have hv : nm 4 o (npow a n) = nm 4 (nm 4 o a) (npow (nm 4 a a) (n / 2)) := by
        rw [npow_sq, nm_assoc]
        congr 1
        have : n = 2 * (n / 2) + 1 := by omega
        conv => lhs; rw [this]
        show nm 4 (npow a (2 * (n / 2))) a = _
        rw [nm_comm]
      rw [hv]
      refine Ev.step (f := fun k => spec_l01Power.l0 k ((nm 4 a a : Nat) : Int) ((n / 2 : Nat) : Int) ((nm 4 o a : Nat) : Int)) (fun k => ?_) e
      simp only [spec_l01Power.l0]
      rw [if_pos (by omega), hm, if_pos (by omega), st ho ha, st ha ha, hd]
      rfl
    · have e := ih (n / 2) (by omega) (by omega) (nm 4 a a) o (nm4_lt _ _) ho
      have hv : npow a n = npow (nm 4 a a) (n / 2) := by
        rw [npow_sq]
        congr 1
        omega
      rw [hv]
      refine Ev.step (f := fun k => spec_l01Power.l0 k ((nm 4 a a : Nat) : Int) ((n / 2 : Nat) : Int) (o : Int)) (fun k => ?_) e
      simp only [spec_l01Power.l0]
      rw [if_pos (by omega), hm, if_neg (by omega), st ha ha, hd]
      rfl
theorem spow {a n : Nat} {m : Int} (hm : m = (n : Int)) (ha : a < 65536) (hn : n < 4611686018427387904) : ∃ K, ∃ v : Nat, v = npow a n ∧ v < 65536 ∧ ∀ k, K ≤ k → spec_l01Power.f k (a : Int) m = some (v : Int) := by
  have e := spow_ev n n (Nat.le_refl _) hn a 1 ha (by decide)
  rw [nm4_one_left (npow_lt a n)] at e
  obtain ⟨K, e⟩ := e
  subst hm
  exact ⟨K, _, rfl, npow_lt a n, e⟩

/-- what the least power is -/
def LogIs (b a : Nat) (r : Int × Int) : Prop :=
  (∃ n : Nat, n < 65536 ∧ npow b n = a ∧ (∀ m, m < n → npow b m ≠ a) ∧ r = ((n : Int), 0)) ∨ ((∀ n, n < 65536 → npow b n ≠ a) ∧ r = (0, 6))
theorem LogIs.one {b a : Nat} {r s : Int × Int} (h : LogIs b a r) (g : LogIs b a s) : r = s := by
  rcases h with ⟨n, hn, hp, hm, rfl⟩ | ⟨hm, rfl⟩
  · rcases g with ⟨n2, hn2, hp2, hm2, rfl⟩ | ⟨hm2, rfl⟩
    · have : n = n2 := by
        rcases Nat.lt_trichotomy n n2 with c | c | c
        · exact absurd hp (hm2 n c)
        · exact c
        · exact absurd hp2 (hm n2 c)
      rw [this]
    · exact absurd hp (hm2 n hn)
  · rcases g with ⟨n2, hn2, hp2, hm2, rfl⟩ | ⟨hm2, rfl⟩
    · exact absurd hp2 (hm n2 hn2)
    · rfl
theorem npow_mul_one {b q : Nat} (h : npow b q = 1) : ∀ j, npow b (q * j) = 1 := by
  intro j
  induction j with
  | zero => rfl
  | succ j ih => rw [Nat.mul_succ, npow_add, ih, h]; rfl
theorem npow_period {b q : Nat} (h : npow b q = 1) (n : Nat) : npow b n = npow b (n % q) := by
  have e := Nat.div_add_mod n q
  have : npow b (q * (n / q) + n % q) = npow b (n % q) := by
    rw [npow_add, npow_mul_one h, nm4_one_left (npow_lt _ _)]
  rwa [e] at this

theorem ilog (b a : Nat) (hb : b < 65536) : ∀ (d n : Nat), n + d = 65536 → (∀ m, m < n → npow b m ≠ a) → ∃ r, LogIs b a r ∧ Ev (fun k => impl_LogOf.l0 k (b : Int) (a : Int) ((npow b n : Nat) : Int) (n : Int)) r := by
  intro d
  induction d with
  | zero =>
    intro n hn hm
    refine ⟨(0, 6), .inr ⟨fun m h => hm m (by omega), rfl⟩, Ev.step (f := fun _ => some (0, 6)) (fun k => ?_) (Ev.now _)⟩
    simp only [impl_LogOf.l0]
    rw [if_neg (by omega)]
  | succ d ih =>
    intro n hn hm
    by_cases hv : npow b n = a
    · refine ⟨((n : Int), 0), .inl ⟨n, by omega, hv, hm, rfl⟩, Ev.step (f := fun _ => some ((n : Int), 0)) (fun k => ?_) (Ev.now _)⟩
      simp only [impl_LogOf.l0]
      rw [if_pos (by omega), if_pos (by omega)]
    · have hm1 : ∀ m, m < n + 1 → npow b m ≠ a := by
        intro m h
        rcases Nat.lt_or_ge m n with c | c
        · exact hm m c
        · have : m = n := by omega
          rw [this]; exact hv
      have hs : nm 4 (npow b n) b = npow b (n + 1) := rfl
      have hl := npow_lt b n
      by_cases h1 : npow b (n + 1) = 1
      · refine ⟨(0, 6), .inr ⟨fun m _ => ?_, rfl⟩, Ev.step (f := fun _ => some (0, 6)) (fun k => ?_) (Ev.now _)⟩
        · rw [npow_period h1]
          exact hm1 _ (Nat.mod_lt _ (by omega))
        · simp only [impl_LogOf.l0]
          rw [if_pos (by omega), if_neg (by omega), it hl hb, Option.bind_some, hs, if_pos (by omega)]
      · obtain ⟨r, hr, e⟩ := ih (n + 1) (by omega) hm1
        refine ⟨r, hr, Ev.step (f := fun k => impl_LogOf.l0 k (b : Int) (a : Int) ((npow b (n + 1) : Nat) : Int) ((n + 1 : Nat) : Int)) (fun k => ?_) e⟩
        simp only [impl_LogOf.l0]
        rw [if_pos (by omega), if_neg (by omega), it hl hb, Option.bind_some, hs, if_neg (by omega), w64s (by omega)]

/-- the first powers -/
def small (b i : Nat) : List Int := (List.range i).map fun (m : Nat) => ((npow b m : Nat) : Int)
theorem small_length (b i : Nat) : (small b i).length = i := by simp [small]
theorem small_getD {b i m : Nat} (h : m < i) : (small b i).getD m 0 = ((npow b m : Nat) : Int) := by simp [small, List.getD, h]
theorem small_succ (b i : Nat) : small b i ++ [((npow b i : Nat) : Int)] = small b (i + 1) := by simp [small, List.range_succ]

theorem slog_far (b a y : Nat) (hb0 : 0 < b) (hb : b < 65536) (hy : y < 65536) (hyp : nm 4 y (npow b 256) = 1) : ∀ (d j left : Nat), j + d = 255 → left < 65536 →
    nm 4 left (npow b (256 * j)) = a → (∀ m, m < 256 * (j + 1) → npow b m ≠ a) → ∃ r, LogIs b a r ∧ Ev (fun k => spec_LogOf.l1 k (small b 256) (y : Int) (left : Int) ((256 * (j + 1) : Nat) : Int)) r := by
  intro d
  induction d with
  | zero =>
    intro j left hj hl he hm
    refine ⟨(0, 6), .inr ⟨fun m h => hm m (by omega), rfl⟩, Ev.step (f := fun _ => some (0, 6)) (fun k => ?_) (Ev.now _)⟩
    simp only [spec_LogOf.l1]
    rw [if_neg (by omega)]
  | succ d ih =>
    intro j left hj hl he hm
    -- the step to the next part
    have hl2 := nm4_lt left y
    have he2 : nm 4 (nm 4 left y) (npow b (256 * (j + 1))) = a := by
      rw [Nat.mul_succ, Nat.add_comm, npow_add, ← nm_assoc, nm_assoc 4 left y, hyp, nm4_one_right hl, he]
    have inner : ∀ (d2 i : Nat), i + d2 = 256 → (∀ m, m < 256 * (j + 1) + i → npow b m ≠ a) → ∃ r, LogIs b a r ∧ Ev (fun k => spec_LogOf.l2 k (small b 256) (y : Int) ((nm 4 left y : Nat) : Int) ((256 * (j + 1) : Nat) : Int) (i : Int)) r := by
      intro d2
      induction d2 with
      | zero =>
        intro i hi hm2
        obtain ⟨r, hr, e⟩ := ih (j + 1) (nm 4 left y) (by omega) hl2 he2 (fun m h => hm2 m (by omega))
        refine ⟨r, hr, Ev.step (f := fun k => spec_LogOf.l1 k (small b 256) (y : Int) ((nm 4 left y : Nat) : Int) ((256 * (j + 1 + 1) : Nat) : Int)) (fun k => ?_) e⟩
        simp only [spec_LogOf.l2]
        rw [small_length, if_neg (by omega)]
        congr 1
        unfold wrap64; omega
      | succ d2 ih2 =>
        intro i hi hm2
        have hsum : npow b (256 * (j + 1) + i) = nm 4 (npow b i) (npow b (256 * (j + 1))) := by rw [Nat.add_comm, npow_add]
        by_cases hv : npow b i = nm 4 left y
        · refine ⟨(((256 * (j + 1) + i : Nat) : Int), 0), .inl ⟨256 * (j + 1) + i, by omega, by rw [hsum, hv, he2], fun m h => hm2 m h, rfl⟩, Ev.step (f := fun _ => some (((256 * (j + 1) + i : Nat) : Int), 0)) (fun k => ?_) (Ev.now _)⟩
          simp only [spec_LogOf.l2]
          rw [small_length, if_pos (by omega), if_pos (by omega), rd_nat, small_getD (by omega), if_pos (by rw [hv])]
          have : wrap64 (((256 * (j + 1) : Nat) : Int) + (i : Int)) = ((256 * (j + 1) + i : Nat) : Int) := by unfold wrap64; omega
          rw [this]
        · obtain ⟨r, hr, e⟩ := ih2 (i + 1) (by omega) (fun m h => by
            rcases Nat.lt_or_ge m (256 * (j + 1) + i) with c | c
            · exact hm2 m c
            · have : m = 256 * (j + 1) + i := by omega
              rw [this, hsum]
              intro e
              exact hv (cancel (npow_pos hb0 hb _) (npow_lt _ _) (npow_lt _ _) hl2 (e.trans he2.symm)))
          refine ⟨r, hr, Ev.step (f := fun k => spec_LogOf.l2 k (small b 256) (y : Int) ((nm 4 left y : Nat) : Int) ((256 * (j + 1) : Nat) : Int) ((i + 1 : Nat) : Int)) (fun k => ?_) e⟩
          simp only [spec_LogOf.l2]
          rw [small_length, if_pos (by omega), if_pos (by omega), rd_nat, small_getD (by omega), if_neg (by omega), w64s (by omega)]
    obtain ⟨r, hr, e⟩ := inner 256 0 (by omega) (fun m h => hm m (by omega))
    refine ⟨r, hr, Ev.step (f := fun k => spec_LogOf.l2 k (small b 256) (y : Int) ((nm 4 left y : Nat) : Int) ((256 * (j + 1) : Nat) : Int) 0) (fun k => ?_) e⟩
    simp only [spec_LogOf.l1]
    rw [if_pos (by omega), st hl hy, Option.bind_some]

theorem npow_zero_base : ∀ n, 0 < n → npow 0 n = 0 := by
  intro n h
  obtain ⟨m, rfl⟩ : ∃ m, n = m + 1 := ⟨n - 1, by omega⟩
  show nm 4 (npow 0 m) 0 = 0
  rw [nm_zero_right]

theorem slog (b a : Nat) (hb : b < 65536) (ha : a < 65536) : ∀ (d i : Nat), i + d = 256 → (∀ m, m < i → npow b m ≠ a) → ∃ r, LogIs b a r ∧ Ev (fun k => spec_LogOf.l0 k (b : Int) (a : Int) (small b i) ((npow b i : Nat) : Int) (i : Int)) r := by
  intro d
  induction d with
  | zero =>
    intro i hi hm
    have hi256 : i = 256 := by omega
    subst hi256
    by_cases hz : b = 0 ∨ a = 0
    · refine ⟨(0, 6), .inr ⟨fun n _ => ?_, rfl⟩, Ev.step (f := fun k => spec_LogOf.j1 k (a : Int) (small b 256) ((npow b 256 : Nat) : Int) true) (fun k => ?_) (Ev.step (f := fun _ => some (0, 6)) (fun k => ?_) (Ev.now _))⟩
      · by_cases hb0 : b = 0
        · subst hb0
          by_cases hn : n = 0
          · rw [hn]; exact hm 0 (by omega)
          · rw [npow_zero_base n (by omega), ← npow_zero_base 1 (by omega)]
            exact hm 1 (by omega)
        · have ha0 : a = 0 := by omega
          have := npow_pos (a := b) (by omega) hb n
          omega
      · simp only [spec_LogOf.l0]
        rw [if_neg (by omega)]
        by_cases hb0 : b = 0
        · rw [if_pos (by omega)]
        · have ha0 : a = 0 := by omega
          rw [if_neg (by omega), ha0]
          rfl
      · simp only [spec_LogOf.j1]
        rw [if_pos trivial]
    · have hb0 : 0 < b := by omega
      obtain ⟨K, y, hy, ly, h1⟩ := spow (a := npow b 256) (n := 65534) (m := 65534) (by omega) (npow_lt _ _) (by omega)
      have hyp : nm 4 y (npow b 256) = 1 := by rw [hy]; exact npow_inv (npow_pos hb0 hb 256) (npow_lt _ _)
      clear hy
      obtain ⟨r, hr, e⟩ := slog_far b a y hb0 hb ly hyp 255 0 a (by omega) ha (nm4_one_right ha) (fun m h => hm m (by omega))
      refine ⟨r, hr, Ev.step (f := fun k => spec_LogOf.j1 k (a : Int) (small b 256) ((npow b 256 : Nat) : Int) false) (fun k => ?_) ?_⟩
      · simp only [spec_LogOf.l0]
        have hd : ((a : Int) == 0) = false := beq_eq_false_iff_ne.mpr (by omega)
        rw [if_neg (by omega), if_neg (by omega), hd]
      · refine Ev.step (f := fun k => (spec_l01Power.f k ((npow b 256 : Nat) : Int) 65534).bind fun t => spec_LogOf.l1 k (small b 256) t (a : Int) 256) (fun k => ?_) (Ev.bind ⟨K, h1⟩ e)
        simp only [spec_LogOf.j1]
        rw [if_neg (by decide)]
        unfold spec_l01Inverse.f
        cases spec_l01Power.f k ((npow b 256 : Nat) : Int) 65534 <;> rfl
  | succ d ih =>
    intro i hi hm
    by_cases hv : npow b i = a
    · refine ⟨((i : Int), 0), .inl ⟨i, by omega, hv, hm, rfl⟩, Ev.step (f := fun _ => some ((i : Int), 0)) (fun k => ?_) (Ev.now _)⟩
      simp only [spec_LogOf.l0]
      rw [if_pos (by omega), if_pos (by omega)]
    · obtain ⟨r, hr, e⟩ := ih (i + 1) (by omega) (fun m h => by
        rcases Nat.lt_or_ge m i with c | c
        · exact hm m c
        · have : m = i := by omega
          rw [this]; exact hv)
      have hs : nm 4 (npow b i) b = npow b (i + 1) := rfl
      have hl := npow_lt b i
      refine ⟨r, hr, Ev.step (f := fun k => spec_LogOf.l0 k (b : Int) (a : Int) (small b (i + 1)) ((npow b (i + 1) : Nat) : Int) ((i + 1 : Nat) : Int)) (fun k => ?_) e⟩
      simp only [spec_LogOf.l0]
      rw [if_pos (by omega), if_neg (by omega), small_length, if_pos (by omega), st hl hb, Option.bind_some, hs, small_succ, w64s (by omega)]

theorem FnExactLogOf : laws_FnExactLogOf.Pure := by
  intro b0 a0 hb0 ha0
  obtain ⟨b, rfl, hb⟩ := wf_u16 hb0
  obtain ⟨a, rfl, ha⟩ := wf_u16 ha0
  obtain ⟨r, hr, K1, h1⟩ := slog b a hb ha 256 0 (by omega) (fun m h => absurd h (by omega))
  obtain ⟨s, hs, K2, h2⟩ := ilog b a hb 65536 0 (by omega) (fun m h => absurd h (by omega))
  have e := hr.one hs
  subst e
  refine ⟨K1 + K2, ?_⟩
  have h1' : spec_LogOf.f (K1 + K2) (b : Int) (a : Int) = some r := h1 _ (by omega)
  have h2' : impl_LogOf.f (K1 + K2) (b : Int) (a : Int) = some r := h2 _ (by omega)
  unfold laws_FnExactLogOf.f
  rw [h1', h2']
  simp only [Option.bind_some, if_true]

end Go.Proofs.Ytenmcdnjbplnlaa.Pure
