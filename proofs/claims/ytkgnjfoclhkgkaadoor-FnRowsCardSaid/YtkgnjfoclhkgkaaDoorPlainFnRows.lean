/- The law FnRows returns true for all arguments, as a statement on numbers and lists alone. -/
import Derived.Test.YtkgnjfoclhkgkaaDoorPM
namespace Go.Proofs.YtkgnjfoclhkgkaaDoor.Pure
open Go.RowKit Go.Proofs.YtkgnjfoclhkgkaaDoor.RFnRows Go.Proofs.YtkgnjfoclhkgkaaDoorW.PrintWords Go.Proofs.YtkgnjfoclhkgkaaDoorW.PrintLast Go.Proofs.YtkgnjfoclhkgkaaDoorW.PrintMore Go.Proofs.YtkgnjfoclhkgkaaDoor.NimF Go.Proofs.YtkgnjfoclhkgkaaDoor.NimGo Go.Proofs.YtkgnjfoclhkgkaaDoor.Given Go.Proofs.YtkgnjfoclhkgkaaDoor.RRO Go.Proofs.YtkgnjfoclhkgkaaDoor.RMT Go.Proofs.YtkgnjfoclhkgkaaDoor.RAT Go.Proofs.YtkgnjfoclhkgkaaDoor.RLN Go.Proofs.YtkgnjfoclhkgkaaDoor.ROC
def textOk (row : Nat) : Bool := match impl_RowText.f 11 (row : Int) 10 with
  | some (t, c) => decide (c = 0) && (match impl_ReadRow.f t with
    | some (b, d) => decide (b = (row : Int)) && decide (d = 0)
    | none => false)
  | none => false
set_option maxHeartbeats 40000000 in
set_option maxRecDepth 1000000 in
theorem textAll : ((List.range 1024).all textOk) = true := by decide +kernel
theorem text_ev {row : Nat} (hrow : row < 1024) : ∃ t, (∀ k, 11 ≤ k → impl_RowText.f k (row : Int) 10 = some (t, 0)) ∧ impl_ReadRow.f t = some ((row : Int), 0) := by
  have h := List.all_eq_true.1 textAll row (List.mem_range.2 hrow)
  unfold textOk at h
  split at h
  · rename_i t c e
    rw [Bool.and_eq_true] at h
    obtain ⟨h1, h2⟩ := h
    split at h2
    · rename_i b d e2
      simp only [Bool.and_eq_true, decide_eq_true_eq] at h1 h2
      obtain ⟨rfl, rfl⟩ := h2
      subst h1
      exact ⟨t, lift (impl_RowText.mono _ _) e, e2⟩
    · cases h2
  · cases h
theorem rowValue_ev {r : Nat} (hr : r < 6) : ∃ K, ∀ k, K ≤ k → ∀ row : Nat, row < 2 ^ 24 → impl_RowValue.f k (r : Int) (row : Int) = some (((xs (V r) row : Nat) : Int), 0) ∧ spec_RowValue.f k (r : Int) (row : Int) = some (((xs (V r) row : Nat) : Int), 0) := by
  obtain ⟨K1, h1⟩ := coinValues_ev (N := 24) hr (Nat.le_refl _)
  obtain ⟨K2, h2⟩ := values_ev (N := 24) hr (Nat.le_refl _)
  refine ⟨K1 + K2 + 40, fun k hk row hrow => ⟨?_, ?_⟩⟩
  · have e1 := h1 k (by omega)
    rw [V_full hr, show ((24 : Nat) : Int) = 24 from rfl] at e1
    unfold impl_RowValue.f
    rw [(code_ok hr (by omega)).1, Option.bind_some, if_pos rfl, e1, Option.bind_some, rowOf_ev (V r) (by rw [V_len hr]; decide) (V_lt hr) _ row (by omega) (by rw [V_len hr]; exact hrow), Option.bind_some]
  · have e2 := h2 k (by omega)
    rw [V_full hr, show ((24 : Nat) : Int) = 24 from rfl] at e2
    unfold spec_RowValue.f
    rw [(code_ok hr (by omega)).2, Option.bind_some, if_pos rfl, e2, Option.bind_some, sum_ev (V r) (by rw [V_len hr]; decide) (V_lt hr) row k (by omega) (by omega), Option.bind_some]
def wt : List Nat → Int × Int
  | [] => (0, 6)
  | m :: _ => ((m : Int), 0)
theorem win_ev {r row : Nat} (hr : r < 6) (hrow : row < 2 ^ 24) : ∃ K, ∀ k, K ≤ k → (impl_WinningTurn.f k (r : Int) (row : Int) = some (wt (wins (V r) r row)) ∧ spec_WinningTurn.f k (r : Int) (row : Int) = some (wt (wins (V r) r row))) ∧ impl_CountWinningTurns.f k (r : Int) (row : Int) = some (((wins (V r) r row).length : Int), 0) := by
  obtain ⟨K1, h1⟩ := coinValues_ev (N := 24) hr (Nat.le_refl _)
  obtain ⟨K2, h2⟩ := winning_spec hr hrow
  refine ⟨K1 + K2, fun k hk => ?_⟩
  have e1 := h1 k (by omega)
  rw [V_full hr, show ((24 : Nat) : Int) = 24 from rfl] at e1
  have e2 := h2 k (by omega)
  have e3 := winning_ev (V r) (V_len hr) (V_lt hr) r row hr hrow
  refine ⟨⟨?_, ?_⟩, ?_⟩
  · unfold impl_WinningTurn.f
    rw [(code_ok hr (by omega)).1, Option.bind_some, if_pos rfl, e1, Option.bind_some, e3, Option.bind_some]
    generalize wins (V r) r row = L
    cases L with
    | nil => rw [if_pos (by simp)]; rfl
    | cons m l => rw [if_neg (by first | (simp; done) | (simp; omega)), if_pos (by first | (simp; done) | (simp; omega))]; rfl
  · unfold spec_WinningTurn.f
    rw [(code_ok hr (by omega)).2, Option.bind_some, if_pos rfl, e2, Option.bind_some]
    generalize wins (V r) r row = L
    cases L with
    | nil => rw [if_pos (by simp)]; rfl
    | cons m l => rw [if_neg (by first | (simp; done) | (simp; omega)), if_pos (by first | (simp; done) | (simp; omega))]; rfl
  · unfold impl_CountWinningTurns.f
    rw [(code_ok hr (by omega)).1, Option.bind_some, if_pos rfl, e1, Option.bind_some, e3, Option.bind_some, List.length_map]
theorem known_ev {r : Nat} (hr : r < 6) : ∃ K, ∀ k, K ≤ k → impl_CoinValues.f k (r : Int) 10 = some (ints ((V r).take 10), 0) ∧ spec_CoinValues.f k (r : Int) 10 = some (ints ((V r).take 10), 0) := by
  obtain ⟨K1, h1⟩ := coinValues_ev (N := 10) hr (by decide)
  obtain ⟨K2, h2⟩ := values_ev (N := 10) hr (by decide)
  refine ⟨K1 + K2, fun k hk => ⟨?_, ?_⟩⟩
  · have e1 := h1 k (by omega)
    rw [show ((10 : Nat) : Int) = 10 from rfl] at e1
    simp only [impl_CoinValues.f, impl_isRule.f, impl_within.f]
    rw [if_pos (by omega), Option.bind_some, Option.bind_some, if_pos (decide_eq_true (by omega)), if_pos (by omega), Option.bind_some, if_pos (decide_eq_true (by omega)), e1, Option.bind_some]
  · have e1 := h2 k (by omega)
    rw [show ((10 : Nat) : Int) = 10 from rfl] at e1
    simp only [spec_CoinValues.f, spec_l04Rule.f, spec_l00In.f]
    rw [if_pos (by omega), Option.bind_some, Option.bind_some, if_pos (decide_eq_true (by omega)), if_pos (by omega), Option.bind_some, if_pos (decide_eq_true (by omega)), e1, Option.bind_some]
theorem sameNims_ev (l : List Int) (h : l.length ≤ 1048576) : ∃ K, ∀ k, K ≤ k → spec_SameNims.f k l l = some true :=
  eq_refl_ev (fun _ _ _ => rfl) (fun _ _ _ _ => rfl) l (by omega)
theorem specTurnsAt_ok {r c : Nat} (hr : r < 6) (hc : c < 24) (k : Nat) (hk : 800 ≤ k) : spec_TurnsAt.f k (r : Int) (c : Int) = some (ints (T r c), 0) := by
  simp only [spec_TurnsAt.f, spec_l04Rule.f, spec_l00In.f]
  rw [if_pos (by omega), Option.bind_some, Option.bind_some, if_pos (decide_eq_true (by omega)), if_pos (by omega), Option.bind_some, if_pos (decide_eq_true (by omega)), turns_ev hr hc k hk, Option.bind_some]
theorem may_ev {r c m : Nat} (hr : r < 6) (hc : c < 10) (hm : m ∈ T r c) (k : Nat) (hk : 10 ≤ k) : impl_MayTurn.f k (r : Int) (m : Int) = some (true, 0) := by
  simp only [impl_MayTurn.f, impl_isRule.f, impl_within.f]
  rw [if_pos (by omega), Option.bind_some, Option.bind_some, if_pos (decide_eq_true (by omega)), ((mayAt hr hc).1 m hm).1.1 k hk, Option.bind_some]
theorem turn_ev {r c m row : Nat} (hr : r < 6) (hc : c < 10) (hm : m ∈ T r c) (hrow : row < 1024) (hb : row >>> c % 2 = 1) (k : Nat) (hk : 10 ≤ k) : impl_TurnRow.f k (r : Int) (row : Int) (m : Int) = some (((row ^^^ m : Nat) : Int), 0) := by
  obtain ⟨k, rfl⟩ : ∃ k', k = k' + 1 := ⟨k - 1, by omega⟩
  obtain ⟨⟨h1, h2⟩, _⟩ := (mayAt hr hc).1 m hm
  have hmlt := ((T_spec hr (show c < 24 by omega)).2.1 m hm).2
  have h3 : 2 ^ (c + 1) ≤ 2 ^ 10 := Nat.pow_le_pow_right (by decide) (by omega)
  have hw : wrap64 (((c + 1 : Nat) : Int) - 1) = (c : Int) := by rw [w64i (by omega) (by omega)]; omega
  simp only [impl_TurnRow.f, impl_greatest.f]
  rw [(code_ok hr (by omega)).1, Option.bind_some, if_pos rfl, h1 (k + 1) hk, Option.bind_some, if_pos rfl, h2, Option.bind_some, Option.bind_some, hw, if_pos (by omega), bit_and (by omega) (by omega), hb]
  simp only [impl_TurnRow.j0]
  rw [if_neg (by decide), if_pos trivial, xor_nat32 (by omega) (by omega)]
set_option maxHeartbeats 4000000 in
set_option maxRecDepth 100000 in
theorem last_ev : ∀ r : Nat, r < 6 → ∀ c : Nat, c < 10 → ∀ k, laws_FnRows.j5 (k + 1) (r : Int) (ints ((V r).take 10)) (c : Int) false = some true := by
  intro r hr c hc k
  simp only [laws_FnRows.j5]
  clear k
  revert r c
  decide +kernel
theorem sums_l0 {r c : Nat} (hr : r < 6) (hc : c < 10) : ∀ n d, d + n = (T r c).length → ∃ K, ∀ k, K ≤ k → laws_FnRows.l0 k (r : Int) (ints ((V r).take 10)) (c : Int) (ints (T r c)) (ints ((vals r c).take d)) (d : Int) = some true := by
  have hc24 : c < 24 := by omega
  obtain ⟨_, h2, h3⟩ := T_more hr hc24
  have hvl : (vals r c).length = (T r c).length := by simp [vals]
  have hl : ((V r).take 10).length = 10 := by rw [List.length_take, V_len hr]; rfl
  intro n
  induction n with
  | zero =>
    intro d hd
    refine ⟨702, fun k hk => ?_⟩
    obtain ⟨k, rfl⟩ : ∃ k', k = k' + 1 + 1 := ⟨k - 2, by omega⟩
    have hg : ((V r).take 10).getD c 0 = (V r).getD c 0 := by simp [List.getD, hc]
    have hV := V_at hr hc24
    simp only [laws_FnRows.l0, impl_ExcludedBy.f]
    rw [if_neg (by simp; omega), List.take_of_length_le (by omega), if_neg (by simp; omega), mex_ev hr hc24 (k + 1) (by omega), Option.bind_some, Option.bind_some, if_pos rfl, if_pos (by omega), if_pos (by rw [List.length_map, hl]; omega), ints_rd, hg, w64i (by omega) (by omega), bne_self_eq_false]
    exact last_ev r hr c hc k
  | succ n ih =>
    intro d hd
    obtain ⟨K, hK⟩ := ih (d + 1) (by omega)
    obtain ⟨KR, hR⟩ := rowValue_ev hr
    refine ⟨K + KR + 40, fun k hk => ?_⟩
    obtain ⟨k, rfl⟩ : ∃ k', k = k' + 1 := ⟨k - 1, by omega⟩
    have hdl : d < (T r c).length := by omega
    have hm := T_mem hdl
    obtain ⟨hx, hlt⟩ := below_top hr hc hm
    have hs := ((mayAt hr hc).1 _ hm).2
    have hn := (h2 _ hm).2
    have hk2 := hK k (by omega)
    simp only [laws_FnRows.l0]
    rw [if_pos (by simp; omega), if_pos (by omega), wraps_u64 (by omega), if_pos (by omega), ints_rd, hn, (hR k (by omega) _ hlt).1, Option.bind_some, may_ev hr hc hm k (by omega), Option.bind_some, if_pos rfl, if_pos rfl, if_pos rfl, hs, if_pos rfl]
    have hadd : ints ((vals r c).take d) ++ [((xs (V r) ((T r c).getD d 0 - 2 ^ c) : Nat) : Int)] = ints ((vals r c).take (d + 1)) := by rw [hx, ← vals_at r c d hdl, ints_take _ _ (by omega)]
    by_cases h0 : d = 0
    · rw [if_neg (by omega), if_pos (by simp; omega), hadd, w64s (by omega)]
      exact hk2
    · have ha := (mayAt hr hc).2 d (by omega) hdl
      rw [if_pos (by omega), show wrap64 ((d : Int) - 1) = ((d - 1 : Nat) : Int) by rw [w64i (by omega) (by omega)]; omega, if_pos (by omega), if_pos (by simp; omega), ints_rd, if_neg (by omega), if_pos (by simp; omega), hadd, w64s (by omega)]
      exact hk2
theorem FnRows : laws_FnRows.Pure := by
  intro l0 l1 _ _ hw0 _ _ hw1
  unfold laws_FnRows.f laws_f6big.f
  by_cases h0 : (l0.length : Int) > 4096
  · refine ⟨1, ?_⟩
    rw [Option.bind_some, if_pos (decide_eq_true h0)]
    simp only [laws_FnRows.j0]
    rfl
  by_cases h1 : (l1.length : Int) > 4096
  · refine ⟨1, ?_⟩
    rw [Option.bind_some, if_neg (by simpa using h0), Option.bind_some, decide_eq_true h1]
    simp only [laws_FnRows.j0]
    rfl
  obtain ⟨r, hr6, hr⟩ := pick_ev l0 hw0
  obtain ⟨row, hrow, hrw⟩ := row_ev l1 hw1
  obtain ⟨c, hc, hcn⟩ := pick10_ev l1 hw1
  have hl : ((V r).take 10).length = 10 := by rw [List.length_take, V_len hr6]; rfl
  have h3 := (T_spec hr6 (show c < 24 by omega)).2.2
  obtain ⟨KR, hR⟩ := rowValue_ev hr6
  obtain ⟨KW, hW⟩ := win_ev (row := row) hr6 (by omega)
  obtain ⟨KC, hC⟩ := known_ev hr6
  obtain ⟨KN, hN⟩ := sameNims_ev (ints ((V r).take 10)) (by rw [List.length_map, hl]; decide)
  obtain ⟨KT, hT⟩ := sameTurns_ev (ints (T r c)) (by rw [List.length_map]; omega)
  obtain ⟨KS, hS⟩ := sums_l0 hr6 hc (T r c).length 0 (by omega)
  obtain ⟨t, ht1, ht2⟩ := text_ev hrow
  have hj2 : ∃ K, ∀ k, K ≤ k → laws_FnRows.j2 k l1 (r : Int) (ints ((V r).take 10)) = some true := by
    refine ⟨KT + KS + 900, fun k hk => ?_⟩
    obtain ⟨k, rfl⟩ : ∃ k', k = k' + 1 + 1 := ⟨k - 2, by omega⟩
    simp only [laws_FnRows.j2]
    rw [hcn, Option.bind_some, turnsAt_ok hr6 (show c < 24 by omega), Option.bind_some, specTurnsAt_ok hr6 (show c < 24 by omega) (k + 1) (by omega), Option.bind_some, if_pos rfl, if_pos rfl, hT (k + 1) (by omega), Option.bind_some]
    simp only [laws_FnRows.j3]
    rw [if_neg (by decide)]
    exact hS k (by omega)
  have hj1 : ∃ K, ∀ k, K ≤ k → laws_FnRows.j1 k l1 (r : Int) (row : Int) (wt (wins (V r) r row)).2 (wt (wins (V r) r row)).1 (ints ((V r).take 10)) false = some true := by
    obtain ⟨K2, h2⟩ := hj2
    cases hw : wins (V r) r row with
    | nil =>
      refine ⟨K2 + 1, fun k hk => ?_⟩
      obtain ⟨k, rfl⟩ : ∃ k', k = k' + 1 := ⟨k - 1, by omega⟩
      simp only [laws_FnRows.j1, wt]
      rw [if_neg (by decide), if_neg (by decide), if_pos trivial]
      exact h2 k (by omega)
    | cons m l =>
      have hm : m ∈ wins (V r) r row := by rw [hw]; exact List.mem_cons_self ..
      obtain ⟨hm10, hx10, hz⟩ := win_zero hr6 hrow hm
      obtain ⟨d, hd, hb, hmT, _⟩ := (wins_mem hrow).1 hm
      obtain ⟨KW2, hW2⟩ := win_ev (row := row ^^^ m) hr6 (by omega)
      have hw2 : wins (V r) r (row ^^^ m) = [] := (game hr6 hx10).2 hz
      refine ⟨K2 + KR + KW2 + 40, fun k hk => ?_⟩
      obtain ⟨k, rfl⟩ : ∃ k', k = k' + 1 := ⟨k - 1, by omega⟩
      have e4 := (hW2 k (by omega)).2
      rw [hw2] at e4
      have e5 := (hR k (by omega) (row ^^^ m) (by omega)).1
      rw [hz] at e5
      show laws_FnRows.j1 (k + 1) l1 (r : Int) (row : Int) 0 (m : Int) (ints ((V r).take 10)) false = some true
      simp only [laws_FnRows.j1]
      rw [if_neg (by decide), if_pos trivial, may_ev hr6 hd hmT k (by omega), Option.bind_some, turn_ev hr6 hd hmT hrow hb k (by omega), Option.bind_some, xor_nat32 (by omega) (by omega), e5, Option.bind_some, e4, Option.bind_some]
      simp only [if_true, List.length_nil, Int.natCast_zero]
      exact h2 k (by omega)
  obtain ⟨K1, h1'⟩ := hj1
  have e1 : (((wt (wins (V r) r row)).2 == 0) != (((xs (V r) row : Nat) : Int) != 0)) = false := by
    cases hw : wins (V r) r row with
    | nil => rw [(game hr6 hrow).1 hw]; rfl
    | cons m l =>
      have hn : xs (V r) row ≠ 0 := fun e => by rw [(game hr6 hrow).2 e] at hw; cases hw
      rw [show (((xs (V r) row : Nat) : Int) != 0) = true from bne_iff_ne.2 (by omega)]; rfl
  have e2 : ((decide (((wins (V r) r row).length : Int) > 0)) != (((xs (V r) row : Nat) : Int) != 0)) = false := by
    cases hw : wins (V r) r row with
    | nil => rw [(game hr6 hrow).1 hw]; rfl
    | cons m l =>
      have hn : xs (V r) row ≠ 0 := fun e => by rw [(game hr6 hrow).2 e] at hw; cases hw
      rw [show (((xs (V r) row : Nat) : Int) != 0) = true from bne_iff_ne.2 (by omega), decide_eq_true (by first | (simp; done) | (simp; omega))]; rfl
  obtain ⟨M, hM⟩ : ∃ M, M = KR + KW + KC + KN + K1 + 100 := ⟨_, rfl⟩
  refine ⟨M + 1, ?_⟩
  rw [Option.bind_some, if_neg (by simpa using h0), Option.bind_some, decide_eq_false h1]
  simp only [laws_FnRows.j0]
  obtain ⟨⟨w1, w2⟩, w3⟩ := hW M (by omega)
  obtain ⟨v1, v2⟩ := hR M (by omega) row (by omega)
  obtain ⟨c1, c2⟩ := hC M (by omega)
  rw [if_neg (by decide), hr, Option.bind_some, hrw, Option.bind_some, v1, Option.bind_some, v2, Option.bind_some, w1, Option.bind_some, w2, Option.bind_some, w3, Option.bind_some, ht1 M (by omega), Option.bind_some, ht2, Option.bind_some, c1, Option.bind_some, c2, Option.bind_some]
  rw [if_pos rfl, if_pos rfl, if_pos rfl, if_pos rfl, if_pos rfl, if_pos rfl, if_neg (by rw [e1]; decide), if_neg (by rw [e2]; decide), if_pos rfl, if_pos rfl, if_pos rfl, if_pos rfl, if_pos rfl, hN M (by omega), Option.bind_some, if_pos rfl, List.length_map, hl]
  exact h1' M (by omega)
end Go.Proofs.YtkgnjfoclhkgkaaDoor.Pure
