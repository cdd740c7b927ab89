/- The law FnRowsPlayed returns true for all arguments, as a statement on numbers and lists alone. -/
import Derived.Test.YtkgnjfoclhkgkaaDoorRFnRowsPlayedx6
import Derived.Test.YtkgnjfoclhkgkaaDoorN1
import Derived.Test.YtkgnjfoclhkgkaaDoorPV
namespace Go.Proofs.YtkgnjfoclhkgkaaDoor.Pure
open Go.RowKit Go.Proofs.YtkgnjfoclhkgkaaDoor.RFnRowsPlayed Go.Proofs.YtkgnjfoclhkgkaaDoorW.PrintWords Go.Proofs.YtkgnjfoclhkgkaaDoorW.PrintLast Go.Proofs.YtkgnjfoclhkgkaaDoorW.PrintMore Go.Proofs.YtkgnjfoclhkgkaaDoor.NimF Go.Proofs.YtkgnjfoclhkgkaaDoor.NimGo Go.Proofs.YtkgnjfoclhkgkaaDoor.Given Go.Proofs.YtkgnjfoclhkgkaaDoor.RRO Go.Proofs.YtkgnjfoclhkgkaaDoor.RMT Go.Proofs.YtkgnjfoclhkgkaaDoor.RAT Go.Proofs.YtkgnjfoclhkgkaaDoor.RLN Go.Proofs.YtkgnjfoclhkgkaaDoor.ROC
def mexOk (r c : Nat) : Bool := decide (impl_mex.f 700 (ints (vals r c)) = some (((V r).getD c 0 : Nat) : Int)) && decide (spec_l03Least.f 700 (ints (vals r c)) = some (((V r).getD c 0 : Nat) : Int)) && decide (spec_l04Turns.f 800 (r : Int) (c : Int) = some (ints (T r c)))
set_option maxHeartbeats 40000000 in
set_option maxRecDepth 1000000 in
theorem m3_0 : mexOk 3 0 = true := by decide +kernel
set_option maxHeartbeats 40000000 in
set_option maxRecDepth 1000000 in
theorem m3_1 : mexOk 3 1 = true := by decide +kernel
set_option maxHeartbeats 40000000 in
set_option maxRecDepth 1000000 in
theorem m3_2 : mexOk 3 2 = true := by decide +kernel
set_option maxHeartbeats 40000000 in
set_option maxRecDepth 1000000 in
theorem m3_3 : mexOk 3 3 = true := by decide +kernel
set_option maxHeartbeats 40000000 in
set_option maxRecDepth 1000000 in
theorem m3_4 : mexOk 3 4 = true := by decide +kernel
set_option maxHeartbeats 40000000 in
set_option maxRecDepth 1000000 in
theorem m3_5 : mexOk 3 5 = true := by decide +kernel
set_option maxHeartbeats 40000000 in
set_option maxRecDepth 1000000 in
theorem m3_6 : mexOk 3 6 = true := by decide +kernel
set_option maxHeartbeats 40000000 in
set_option maxRecDepth 1000000 in
theorem m3_7 : mexOk 3 7 = true := by decide +kernel
set_option maxHeartbeats 40000000 in
set_option maxRecDepth 1000000 in
theorem m3_8 : mexOk 3 8 = true := by decide +kernel
set_option maxHeartbeats 40000000 in
set_option maxRecDepth 1000000 in
theorem m3_9 : mexOk 3 9 = true := by decide +kernel
set_option maxHeartbeats 40000000 in
set_option maxRecDepth 1000000 in
theorem m3_10 : mexOk 3 10 = true := by decide +kernel
set_option maxHeartbeats 40000000 in
set_option maxRecDepth 1000000 in
theorem m3_11 : mexOk 3 11 = true := by decide +kernel
set_option maxHeartbeats 40000000 in
set_option maxRecDepth 1000000 in
theorem m3_12 : mexOk 3 12 = true := by decide +kernel
set_option maxHeartbeats 40000000 in
set_option maxRecDepth 1000000 in
theorem m3_13 : mexOk 3 13 = true := by decide +kernel
set_option maxHeartbeats 40000000 in
set_option maxRecDepth 1000000 in
theorem m3_14 : mexOk 3 14 = true := by decide +kernel
set_option maxHeartbeats 40000000 in
set_option maxRecDepth 1000000 in
theorem m3_15 : mexOk 3 15 = true := by decide +kernel
set_option maxHeartbeats 40000000 in
set_option maxRecDepth 1000000 in
theorem m3_16 : mexOk 3 16 = true := by decide +kernel
set_option maxHeartbeats 40000000 in
set_option maxRecDepth 1000000 in
theorem m3_17 : mexOk 3 17 = true := by decide +kernel
set_option maxHeartbeats 40000000 in
set_option maxRecDepth 1000000 in
theorem m3_18 : mexOk 3 18 = true := by decide +kernel
set_option maxHeartbeats 40000000 in
set_option maxRecDepth 1000000 in
theorem m3_19 : mexOk 3 19 = true := by decide +kernel
set_option maxHeartbeats 40000000 in
set_option maxRecDepth 1000000 in
theorem m3_20 : mexOk 3 20 = true := by decide +kernel
set_option maxHeartbeats 40000000 in
set_option maxRecDepth 1000000 in
theorem m3_21 : mexOk 3 21 = true := by decide +kernel
set_option maxHeartbeats 40000000 in
set_option maxRecDepth 1000000 in
theorem m3_22 : mexOk 3 22 = true := by decide +kernel
set_option maxHeartbeats 40000000 in
set_option maxRecDepth 1000000 in
theorem m3_23 : mexOk 3 23 = true := by decide +kernel
theorem mc3 : ∀ c, c < 24 → mexOk 3 c = true
  | 0, _ => m3_0
  | 1, _ => m3_1
  | 2, _ => m3_2
  | 3, _ => m3_3
  | 4, _ => m3_4
  | 5, _ => m3_5
  | 6, _ => m3_6
  | 7, _ => m3_7
  | 8, _ => m3_8
  | 9, _ => m3_9
  | 10, _ => m3_10
  | 11, _ => m3_11
  | 12, _ => m3_12
  | 13, _ => m3_13
  | 14, _ => m3_14
  | 15, _ => m3_15
  | 16, _ => m3_16
  | 17, _ => m3_17
  | 18, _ => m3_18
  | 19, _ => m3_19
  | 20, _ => m3_20
  | 21, _ => m3_21
  | 22, _ => m3_22
  | 23, _ => m3_23
  | n + 24, h => by omega
set_option maxHeartbeats 40000000 in
set_option maxRecDepth 1000000 in
theorem m5_0 : mexOk 5 0 = true := by decide +kernel
set_option maxHeartbeats 40000000 in
set_option maxRecDepth 1000000 in
theorem m5_1 : mexOk 5 1 = true := by decide +kernel
set_option maxHeartbeats 40000000 in
set_option maxRecDepth 1000000 in
theorem m5_2 : mexOk 5 2 = true := by decide +kernel
set_option maxHeartbeats 40000000 in
set_option maxRecDepth 1000000 in
theorem m5_3 : mexOk 5 3 = true := by decide +kernel
set_option maxHeartbeats 40000000 in
set_option maxRecDepth 1000000 in
theorem m5_4 : mexOk 5 4 = true := by decide +kernel
set_option maxHeartbeats 40000000 in
set_option maxRecDepth 1000000 in
theorem m5_5 : mexOk 5 5 = true := by decide +kernel
set_option maxHeartbeats 40000000 in
set_option maxRecDepth 1000000 in
theorem m5_6 : mexOk 5 6 = true := by decide +kernel
set_option maxHeartbeats 40000000 in
set_option maxRecDepth 1000000 in
theorem m5_7 : mexOk 5 7 = true := by decide +kernel
set_option maxHeartbeats 40000000 in
set_option maxRecDepth 1000000 in
theorem m5_8 : mexOk 5 8 = true := by decide +kernel
set_option maxHeartbeats 40000000 in
set_option maxRecDepth 1000000 in
theorem m5_9 : mexOk 5 9 = true := by decide +kernel
set_option maxHeartbeats 40000000 in
set_option maxRecDepth 1000000 in
theorem m5_10 : mexOk 5 10 = true := by decide +kernel
set_option maxHeartbeats 40000000 in
set_option maxRecDepth 1000000 in
theorem m5_11 : mexOk 5 11 = true := by decide +kernel
set_option maxHeartbeats 40000000 in
set_option maxRecDepth 1000000 in
theorem m5_12 : mexOk 5 12 = true := by decide +kernel
set_option maxHeartbeats 40000000 in
set_option maxRecDepth 1000000 in
theorem m5_13 : mexOk 5 13 = true := by decide +kernel
set_option maxHeartbeats 40000000 in
set_option maxRecDepth 1000000 in
theorem m5_14 : mexOk 5 14 = true := by decide +kernel
set_option maxHeartbeats 40000000 in
set_option maxRecDepth 1000000 in
theorem m5_15 : mexOk 5 15 = true := by decide +kernel
set_option maxHeartbeats 40000000 in
set_option maxRecDepth 1000000 in
theorem m5_16 : mexOk 5 16 = true := by decide +kernel
set_option maxHeartbeats 40000000 in
set_option maxRecDepth 1000000 in
theorem m5_17 : mexOk 5 17 = true := by decide +kernel
set_option maxHeartbeats 40000000 in
set_option maxRecDepth 1000000 in
theorem m5_18 : mexOk 5 18 = true := by decide +kernel
set_option maxHeartbeats 40000000 in
set_option maxRecDepth 1000000 in
theorem m5_19 : mexOk 5 19 = true := by decide +kernel
set_option maxHeartbeats 40000000 in
set_option maxRecDepth 1000000 in
theorem m5_20 : mexOk 5 20 = true := by decide +kernel
set_option maxHeartbeats 40000000 in
set_option maxRecDepth 1000000 in
theorem m5_21 : mexOk 5 21 = true := by decide +kernel
set_option maxHeartbeats 40000000 in
set_option maxRecDepth 1000000 in
theorem m5_22 : mexOk 5 22 = true := by decide +kernel
set_option maxHeartbeats 40000000 in
set_option maxRecDepth 1000000 in
theorem m5_23 : mexOk 5 23 = true := by decide +kernel
theorem mc5 : ∀ c, c < 24 → mexOk 5 c = true
  | 0, _ => m5_0
  | 1, _ => m5_1
  | 2, _ => m5_2
  | 3, _ => m5_3
  | 4, _ => m5_4
  | 5, _ => m5_5
  | 6, _ => m5_6
  | 7, _ => m5_7
  | 8, _ => m5_8
  | 9, _ => m5_9
  | 10, _ => m5_10
  | 11, _ => m5_11
  | 12, _ => m5_12
  | 13, _ => m5_13
  | 14, _ => m5_14
  | 15, _ => m5_15
  | 16, _ => m5_16
  | 17, _ => m5_17
  | 18, _ => m5_18
  | 19, _ => m5_19
  | 20, _ => m5_20
  | 21, _ => m5_21
  | 22, _ => m5_22
  | 23, _ => m5_23
  | n + 24, h => by omega
set_option maxHeartbeats 40000000 in
set_option maxRecDepth 1000000 in
theorem mexAll : ∀ r, r < 6 → ((List.range 24).all fun c => mexOk r c) = true
  | 0, _ => by decide +kernel
  | 1, _ => by decide +kernel
  | 2, _ => by decide +kernel
  | 3, _ => List.all_eq_true.2 (fun c hc => mc3 c (List.mem_range.1 hc))
  | 4, _ => by decide +kernel
  | 5, _ => List.all_eq_true.2 (fun c hc => mc5 c (List.mem_range.1 hc))
  | n + 6, h => by omega
theorem mexAt {r c : Nat} (hr : r < 6) (hc : c < 24) : (impl_mex.f 700 (ints (vals r c)) = some (((V r).getD c 0 : Nat) : Int) ∧ spec_l03Least.f 700 (ints (vals r c)) = some (((V r).getD c 0 : Nat) : Int)) ∧ spec_l04Turns.f 800 (r : Int) (c : Int) = some (ints (T r c)) := by
  have h := List.all_eq_true.1 (mexAll r hr) c (List.mem_range.2 hc)
  unfold mexOk at h
  simpa only [Bool.and_eq_true, decide_eq_true_eq] using h
theorem mex_ev {r c : Nat} (hr : r < 6) (hc : c < 24) : ∀ k, 700 ≤ k → impl_mex.f k (ints (vals r c)) = some (((V r).getD c 0 : Nat) : Int) := lift (impl_mex.mono _) (mexAt hr hc).1.1
theorem least_ev {r c : Nat} (hr : r < 6) (hc : c < 24) : ∀ k, 700 ≤ k → spec_l03Least.f k (ints (vals r c)) = some (((V r).getD c 0 : Nat) : Int) := lift (spec_l03Least.mono _) (mexAt hr hc).1.2
theorem turns_ev {r c : Nat} (hr : r < 6) (hc : c < 24) : ∀ k, 800 ≤ k → spec_l04Turns.f k (r : Int) (c : Int) = some (ints (T r c)) := lift (spec_l04Turns.mono _ _) (mexAt hr hc).2
theorem V_take {r c : Nat} (hr : r < 6) (hc : c < 24) : ints ((V r).take c) ++ [(((V r).getD c 0 : Nat) : Int)] = ints ((V r).take (c + 1)) := by
  have hl := V_len hr
  rw [List.take_add_one, List.getElem?_eq_getElem (by omega), ints, ints, List.map_append, List.getD_eq_getElem?_getD, List.getElem?_eq_getElem (show c < (V r).length by omega)]
  rfl
theorem V_at {r c : Nat} (hr : r < 6) (hc : c < 24) : (V r).getD c 0 < 65536 := by
  have hl := V_len hr
  rw [List.getD_eq_getElem?_getD, List.getElem?_eq_getElem (by omega)]
  exact V_lt hr _ (List.getElem_mem _)
theorem take_lt {r c : Nat} (hr : r < 6) : ∀ v ∈ (V r).take c, v < 65536 := fun v hv => V_lt hr v (List.mem_of_mem_take hv)
theorem ints_take (l : List Nat) (d : Nat) (h : d < l.length) : ints (l.take d) ++ [((l.getD d 0 : Nat) : Int)] = ints (l.take (d + 1)) := by
  rw [List.take_add_one, List.getElem?_eq_getElem h, ints, ints, List.map_append, List.getD_eq_getElem?_getD, List.getElem?_eq_getElem h]
  rfl
theorem vals_at (r c d : Nat) (h : d < (T r c).length) : (vals r c).getD d 0 = xs ((V r).take c) ((T r c).getD d 0) := by
  simp [vals, List.getD, h]
theorem T_mem {r c d : Nat} (h : d < (T r c).length) : (T r c).getD d 0 ∈ T r c := by simp [List.getD, h]
/-- the program's values -/
theorem cv_l1 {r c N : Nat} (hr : r < 6) (hc : c < 24) (res : List Int) (K0 : Nat) (hK0 : ∀ k, K0 ≤ k → impl_coinValues.l0 k (r : Int) (ints ((V r).take (c + 1))) (N : Int) ((c + 1 : Nat) : Int) = some res) :
    ∀ n d, d + n = (T r c).length → ∃ K, ∀ k, K ≤ k → impl_coinValues.l1 k (r : Int) (ints ((V r).take c)) (c : Int) (ints ((vals r c).take d)) (N : Int) (c : Int) (ints (T r c)) ((T r c).length : Int) (d : Int) = some res := by
  obtain ⟨h1, h2, h3⟩ := T_more hr hc
  have hvl : (vals r c).length = (T r c).length := by simp [vals]
  intro n
  induction n with
  | zero =>
    intro d hd
    refine ⟨max K0 700 + 1, fun k hk => ?_⟩
    obtain ⟨k, rfl⟩ : ∃ k', k = k' + 1 := ⟨k - 1, by omega⟩
    unfold impl_coinValues.l1
    rw [if_neg (by omega), List.take_of_length_le (by omega), mex_ev hr hc k (by omega), Option.bind_some, if_pos (by simp; omega), wraps16n (V_at hr hc), V_take hr hc, w64s (by omega)]
    exact hK0 k (by omega)
  | succ n ih =>
    intro d hd
    obtain ⟨K, hK⟩ := ih (d + 1) (by omega)
    refine ⟨max K 40 + 1, fun k hk => ?_⟩
    obtain ⟨k, rfl⟩ : ∃ k', k = k' + 1 := ⟨k - 1, by omega⟩
    have hdl : d < (T r c).length := by omega
    obtain ⟨⟨ha, hb⟩, hn⟩ := h2 _ (T_mem hdl)
    unfold impl_coinValues.l1
    rw [if_pos (by omega), if_pos (by omega), if_pos (by simp; omega), if_pos (by omega), ints_rd, hn]
    have hlen : ((V r).take c).length = c := by rw [List.length_take, V_len hr]; omega
    have hp : 2 ^ (c + 1) = 2 * 2 ^ c := by rw [Nat.pow_succ, Nat.mul_comm]
    rw [rowOf_ev _ (by omega) (take_lt hr) k _ (by omega) (by rw [hlen]; omega), Option.bind_some, if_pos (by simp; omega)]
    have hx : xs ((V r).take c) ((T r c).getD d 0 - 2 ^ c) = (vals r c).getD d 0 := by
      rw [vals_at r c d hdl, ← xs_mod _ ((T r c).getD d 0), hlen]
      congr 1
      rw [← Nat.sub_add_cancel ha, Nat.add_mod_right, Nat.mod_eq_of_lt (by omega)]
      omega
    rw [hx, ints_take _ _ (by omega), w64s (by omega)]
    exact hK k (by omega)
theorem cv_l0 {r N : Nat} (hr : r < 6) (hN : N ≤ 24) : ∀ n c, c + n = N → ∃ K, ∀ k, K ≤ k → impl_coinValues.l0 k (r : Int) (ints ((V r).take c)) (N : Int) (c : Int) = some (ints ((V r).take N)) := by
  intro n
  induction n with
  | zero =>
    intro c hc
    refine ⟨1, fun k hk => ?_⟩
    obtain ⟨k, rfl⟩ : ∃ k', k = k' + 1 := ⟨k - 1, by omega⟩
    unfold impl_coinValues.l0
    rw [if_neg (by omega), show c = N by omega]
  | succ n ih =>
    intro c hc
    obtain ⟨K0, hK0⟩ := ih (c + 1) (by omega)
    obtain ⟨K, hK⟩ := cv_l1 hr (show c < 24 by omega) _ K0 hK0 (T r c).length 0 (by omega)
    refine ⟨K + 1, fun k hk => ?_⟩
    obtain ⟨k, rfl⟩ : ∃ k', k = k' + 1 := ⟨k - 1, by omega⟩
    unfold impl_coinValues.l0
    rw [if_pos (by omega), (T_spec hr (show c < 24 by omega)).1, Option.bind_some]
    have := hK k (by omega)
    simpa using this
theorem coinValues_ev {r N : Nat} (hr : r < 6) (hN : N ≤ 24) : ∃ K, ∀ k, K ≤ k → impl_coinValues.f k (r : Int) (N : Int) = some (ints ((V r).take N)) := by
  obtain ⟨K, hK⟩ := cv_l0 hr hN N 0 (by omega)
  exact ⟨K, fun k hk => by have := hK k hk; simpa [impl_coinValues.f] using this⟩
/-- the reference's sums -/
theorem sum_l0 (l : List Nat) (hl : l.length ≤ 24) (hv : ∀ v ∈ l, v < 65536) (m : Nat) (hm : m < 2 ^ 32) : ∀ (k i s : Nat), i ≤ l.length → l.length - i < k → s < 65536 → spec_l04Sum.l0 k (ints l) (m : Int) (s : Int) (i : Int) = some ((s ^^^ xs (l.drop i) (m >>> i) : Nat) : Int) := by
  intro k
  induction k with
  | zero => intro i s _ h; exact absurd h (Nat.not_lt_zero _)
  | succ k ih =>
    intro i s hi hk hs
    unfold spec_l04Sum.l0
    by_cases hlt : i < l.length
    · rw [if_pos (by simp; omega), wraps_u64 (by omega), if_pos (by omega), bit_and hm (by omega), w64s (by omega), List.drop_eq_getElem_cons hlt]
      have hvi : l[i] < 65536 := hv _ (List.getElem_mem _)
      have hg : l.getD i 0 = l[i] := by simp [List.getD, hlt]
      simp only [xs]
      rw [← Nat.shiftRight_succ]
      by_cases hb : m >>> i % 2 = 1
      · rw [if_pos (by omega), if_pos (by omega), ints_rd, hg, xor16 hs hvi, ih (i + 1) _ (by omega) (by omega) (Nat.xor_lt_two_pow (n := 16) hs hvi), if_pos hb, Nat.xor_assoc]
      · rw [if_neg (by omega), ih (i + 1) _ (by omega) (by omega) hs, if_neg hb, Nat.zero_xor]
    · rw [if_neg (by simp; omega), List.drop_of_length_le (by omega)]
      simp [xs]
theorem sum_ev (l : List Nat) (hl : l.length ≤ 24) (hv : ∀ v ∈ l, v < 65536) (m k : Nat) (hm : m < 2 ^ 32) (hk : 25 ≤ k) : spec_l04Sum.f k (ints l) (m : Int) = some ((xs l m : Nat) : Int) := by
  unfold spec_l04Sum.f
  have := sum_l0 l hl hv m hm k 0 0 (Nat.zero_le _) (by omega) (by decide)
  simpa using this
/-- the reference's values -/
theorem sv_l1 {r c N : Nat} (hr : r < 6) (hc : c < 24) (res : List Int) (K0 : Nat) (hK0 : ∀ k, K0 ≤ k → spec_l04Values.l0 k (r : Int) (N : Int) (ints ((V r).take (c + 1))) ((c + 1 : Nat) : Int) = some res) :
    ∀ n d, d + n = (T r c).length → ∃ K, ∀ k, K ≤ k → spec_l04Values.l1 k (r : Int) (N : Int) (ints ((V r).take c)) (c : Int) (ints ((vals r c).take d)) (ints (T r c)) (d : Int) = some res := by
  obtain ⟨h1, h2, h3⟩ := T_more hr hc
  have hvl : (vals r c).length = (T r c).length := by simp [vals]
  intro n
  induction n with
  | zero =>
    intro d hd
    refine ⟨max K0 700 + 1, fun k hk => ?_⟩
    obtain ⟨k, rfl⟩ : ∃ k', k = k' + 1 := ⟨k - 1, by omega⟩
    unfold spec_l04Values.l1
    rw [if_neg (by simp; omega), List.take_of_length_le (by omega), least_ev hr hc k (by omega), Option.bind_some, if_pos (by simp; omega), V_take hr hc, w64s (by omega)]
    exact hK0 k (by omega)
  | succ n ih =>
    intro d hd
    obtain ⟨K, hK⟩ := ih (d + 1) (by omega)
    refine ⟨max K 40 + 1, fun k hk => ?_⟩
    obtain ⟨k, rfl⟩ : ∃ k', k = k' + 1 := ⟨k - 1, by omega⟩
    have hdl : d < (T r c).length := by omega
    obtain ⟨⟨ha, hb⟩, hn⟩ := h2 _ (T_mem hdl)
    unfold spec_l04Values.l1
    have hlen : ((V r).take c).length = c := by rw [List.length_take, V_len hr]; omega
    have h24 : 2 ^ (c + 1) ≤ 2 ^ 24 := Nat.pow_le_pow_right (by decide) (by omega)
    rw [if_pos (by simp; omega), if_pos (by omega), ints_rd, sum_ev _ (by omega) (take_lt hr) _ k (by omega) (by omega), Option.bind_some, if_pos (by simp; omega), ← vals_at r c d hdl, ints_take _ _ (by omega), w64s (by omega)]
    exact hK k (by omega)
theorem sv_l0 {r N : Nat} (hr : r < 6) (hN : N ≤ 24) : ∀ n c, c + n = N → ∃ K, ∀ k, K ≤ k → spec_l04Values.l0 k (r : Int) (N : Int) (ints ((V r).take c)) (c : Int) = some (ints ((V r).take N)) := by
  intro n
  induction n with
  | zero =>
    intro c hc
    refine ⟨1, fun k hk => ?_⟩
    obtain ⟨k, rfl⟩ : ∃ k', k = k' + 1 := ⟨k - 1, by omega⟩
    unfold spec_l04Values.l0
    rw [if_neg (by omega), show c = N by omega]
  | succ n ih =>
    intro c hc
    obtain ⟨K0, hK0⟩ := ih (c + 1) (by omega)
    obtain ⟨K, hK⟩ := sv_l1 hr (show c < 24 by omega) _ K0 hK0 (T r c).length 0 (by omega)
    refine ⟨max K 800 + 1, fun k hk => ?_⟩
    obtain ⟨k, rfl⟩ : ∃ k', k = k' + 1 := ⟨k - 1, by omega⟩
    unfold spec_l04Values.l0
    rw [if_pos (by omega), turns_ev hr (show c < 24 by omega) k (by omega), Option.bind_some]
    have := hK k (by omega)
    simpa using this
theorem values_ev {r N : Nat} (hr : r < 6) (hN : N ≤ 24) : ∃ K, ∀ k, K ≤ k → spec_l04Values.f k (r : Int) (N : Int) = some (ints ((V r).take N)) := by
  obtain ⟨K, hK⟩ := sv_l0 hr hN N 0 (by omega)
  exact ⟨K, fun k hk => by have := hK k hk; simpa [spec_l04Values.f] using this⟩
theorem V_full {r : Nat} (hr : r < 6) : (V r).take 24 = V r := List.take_of_length_le (by rw [V_len hr]; decide)

theorem xor_eq {a b : Nat} (h : a ^^^ b = 0) : a = b := by
  have h1 : (a ^^^ b) ^^^ b = a := by rw [Nat.xor_assoc, Nat.xor_self, Nat.xor_zero]
  rw [h, Nat.zero_xor] at h1
  exact h1.symm
/-- the reference's turns that win -/
theorem win_l1 {r c row : Nat} (hr : r < 6) (hc : c < 24) (hrow : row < 2 ^ 24) (rest : List Nat) (K0 : Nat) (hK0 : ∀ k (acc : List Nat), K0 ≤ k → acc.length ≤ 300 * (c + 1) → spec_l04Winning.l0 k (r : Int) (row : Int) (ints (V r)) (ints acc) ((c + 1 : Nat) : Int) = some (ints (acc ++ rest))) :
    ∀ n d, d + n = (T r c).length → ∃ K, ∀ k (acc : List Nat), K ≤ k → acc.length ≤ 300 * c + d → spec_l04Winning.l1 k (r : Int) (row : Int) (ints (V r)) (ints acc) (c : Int) (ints (T r c)) (d : Int) = some (ints (acc ++ ((T r c).drop d).filter (fun m => decide (xs (V r) m = xs (V r) row)) ++ rest)) := by
  obtain ⟨_, h2, h3⟩ := T_more hr hc
  intro n
  induction n with
  | zero =>
    intro d hd
    refine ⟨K0 + 1, fun k acc hk ha => ?_⟩
    obtain ⟨k, rfl⟩ : ∃ k', k = k' + 1 := ⟨k - 1, by omega⟩
    unfold spec_l04Winning.l1
    rw [if_neg (by simp; omega), w64s (by omega), hK0 k acc (by omega) (by omega), List.drop_of_length_le (by omega)]
    simp
  | succ n ih =>
    intro d hd
    obtain ⟨K, hK⟩ := ih (d + 1) (by omega)
    refine ⟨max K 40 + 1, fun k acc hk ha => ?_⟩
    obtain ⟨k, rfl⟩ : ∃ k', k = k' + 1 := ⟨k - 1, by omega⟩
    have hdl : d < (T r c).length := by omega
    have hm := (h2 _ (T_mem hdl)).1
    have h24 : 2 ^ (c + 1) ≤ 2 ^ 24 := Nat.pow_le_pow_right (by decide) (by omega)
    have hx : row ^^^ (T r c).getD d 0 < 2 ^ 32 := Nat.xor_lt_two_pow (by omega) (by omega)
    unfold spec_l04Winning.l1
    rw [if_pos (by simp; omega), if_pos (by omega), ints_rd, xor_nat32 (by omega) (by omega), sum_ev _ (by rw [V_len hr]; decide) (V_lt hr) _ k hx (by omega), Option.bind_some, xs_xor, w64s (by omega)]
    have hdr : (T r c).drop d = (T r c).getD d 0 :: (T r c).drop (d + 1) := by rw [List.drop_eq_getElem_cons hdl]; simp [List.getD, hdl]
    rw [hdr]
    by_cases he : xs (V r) ((T r c).getD d 0) = xs (V r) row
    · rw [if_pos (by rw [he, Nat.xor_self]; rfl), if_pos (by simp; omega)]
      have := hK k (acc ++ [(T r c).getD d 0]) (by omega) (by simp; omega)
      rw [List.filter_cons_of_pos (by simpa using he), show ints acc ++ [(((T r c).getD d 0 : Nat) : Int)] = ints (acc ++ [(T r c).getD d 0]) by simp, this]
      simp
    · rw [if_neg (fun h => he (xor_eq (by omega : xs (V r) row ^^^ xs (V r) ((T r c).getD d 0) = 0)).symm), hK k acc (by omega) (by omega), List.filter_cons_of_neg (by simpa using he)]
theorem win_l0 {r row : Nat} (hr : r < 6) (hrow : row < 2 ^ 24) : ∀ n c, c + n = 24 → ∃ K, ∀ k (acc : List Nat), K ≤ k → acc.length ≤ 300 * c → spec_l04Winning.l0 k (r : Int) (row : Int) (ints (V r)) (ints acc) (c : Int) = some (ints (acc ++ (turnsFrom r row c n).filter (fun m => decide (xs (V r) m = xs (V r) row)))) := by
  intro n
  induction n with
  | zero =>
    intro c hc
    refine ⟨1, fun k acc hk _ => ?_⟩
    obtain ⟨k, rfl⟩ : ∃ k', k = k' + 1 := ⟨k - 1, by omega⟩
    unfold spec_l04Winning.l0
    rw [if_neg (by omega)]
    simp [turnsFrom]
  | succ n ih =>
    intro c hc
    obtain ⟨K0, hK0⟩ := ih (c + 1) (by omega)
    obtain ⟨K, hK⟩ := win_l1 hr (show c < 24 by omega) hrow _ K0 hK0 (T r c).length 0 (by omega)
    refine ⟨max K (max K0 800) + 1, fun k acc hk ha => ?_⟩
    obtain ⟨k, rfl⟩ : ∃ k', k = k' + 1 := ⟨k - 1, by omega⟩
    unfold spec_l04Winning.l0
    rw [if_pos (by omega), wraps_u64 (by omega), if_pos (by omega), bit_and (by omega) (by omega)]
    unfold turnsFrom
    rw [List.filter_append]
    by_cases hb : row >>> c % 2 = 1
    · rw [if_neg (by omega), turns_ev hr (show c < 24 by omega) k (by omega), Option.bind_some, if_pos hb]
      have := hK k acc (by omega) (by omega)
      rw [List.drop_zero, List.append_assoc] at this
      exact this
    · rw [if_pos (by omega), if_neg hb, w64s (by omega), hK0 k acc (by omega) (by omega)]
      simp
theorem winning_spec {r row : Nat} (hr : r < 6) (hrow : row < 2 ^ 24) : ∃ K, ∀ k, K ≤ k → spec_l04Winning.f k (r : Int) (row : Int) = some (ints (wins (V r) r row)) := by
  obtain ⟨K1, h1⟩ := values_ev (N := 24) hr (Nat.le_refl _)
  obtain ⟨K2, h2⟩ := win_l0 hr hrow 24 0 rfl
  refine ⟨max K1 K2, fun k hk => ?_⟩
  unfold spec_l04Winning.f
  have h3 := h1 k (by omega)
  rw [V_full hr] at h3
  rw [show ((24 : Nat) : Int) = 24 from rfl] at h3
  rw [h3, Option.bind_some]
  have := h2 k [] (by omega) (Nat.zero_le _)
  exact this

/-- the least turn of the least coin that can be turned -/
theorem any_l0 {r row : Nat} (hr : r < 6) (hrow : row < 2 ^ 32) : ∀ (n c k : Nat), c + n = 24 → 1000 + n < k → spec_l04Any.l0 k (r : Int) (row : Int) (c : Int) = some (match turnsFrom r row c n with | [] => (0, false) | m :: _ => ((m : Int), true)) := by
  intro n
  induction n with
  | zero =>
    intro c k hc hk
    obtain ⟨k, rfl⟩ : ∃ k', k = k' + 1 := ⟨k - 1, by omega⟩
    unfold spec_l04Any.l0
    rw [if_neg (by omega)]
    rfl
  | succ n ih =>
    intro c k hc hk
    obtain ⟨k, rfl⟩ : ∃ k', k = k' + 1 := ⟨k - 1, by omega⟩
    unfold spec_l04Any.l0
    rw [if_pos (by omega), wraps_u64 (by omega), if_pos (by omega), bit_and hrow (by omega), w64s (by omega)]
    unfold turnsFrom
    by_cases hb : row >>> c % 2 = 1
    · rw [if_neg (by omega), turns_ev hr (show c < 24 by omega) k (by omega), Option.bind_some, if_pos hb]
      cases hT : T r c with
      | nil => rw [if_neg (by simp), ih (c + 1) k (by omega) (by omega), List.nil_append]
      | cons m l =>
        rw [if_pos (by simp), if_pos (by simp), List.cons_append]
        rfl
    · rw [if_pos (by omega), if_neg hb, ih (c + 1) k (by omega) (by omega), List.nil_append]
/-- the turn that is made -/
def pick (r row t : Nat) : Nat := match wins (V r) r row with | [] => t | w :: _ => w
/-- how a row is played -/
def playM (r : Nat) : Nat → Nat → List Nat → List Nat × Int
  | 0, _, _ => ([], 7)
  | n + 1, row, acc => match turnsFrom r row 0 24 with
    | [] => (acc, 0)
    | t :: _ => if acc.length = 300 then ([], 7) else playM r n (row ^^^ pick r row t) (acc ++ [pick r row t])
theorem pick_lt {r row t : Nat} {l : List Nat} (hr : r < 6) (h : turnsFrom r row 0 24 = t :: l) : pick r row t < 2 ^ 24 := by
  have hlt := turnsFrom_lt r row hr 24 0 (by decide)
  unfold pick
  cases hw : wins (V r) r row with
  | nil => exact hlt t (by rw [h]; exact List.mem_cons_self ..)
  | cons w l2 =>
    refine hlt w ?_
    have h1 : w ∈ wins (V r) r row := by rw [hw]; exact List.mem_cons_self ..
    exact (List.mem_filter.1 h1).1
theorem play_len (r : Nat) : ∀ (n row : Nat) (acc : List Nat), acc.length ≤ 300 → (playM r n row acc).1.length ≤ 300
  | 0, _, _, _ => by simp [playM]
  | n + 1, row, acc, h => by
    unfold playM
    split
    · exact h
    · split
      · simp
      · exact play_len r n _ _ (by first | (simp; done) | (simp; omega))
theorem play_impl {r : Nat} (hr : r < 6) : ∀ (n row : Nat) (acc : List Nat), row < 2 ^ 24 → acc.length ≤ 300 → acc.length + n = 301 → ∃ K, ∀ k, K ≤ k → impl_PlayRow.l0 k (r : Int) (row : Int) (ints (V r)) (ints acc) = some (ints (playM r n row acc).1, (playM r n row acc).2) := by
  intro n
  induction n with
  | zero => intro row acc _ h1 h2; omega
  | succ n ih =>
    intro row acc hrow ha hn
    unfold playM
    cases hT : turnsFrom r row 0 24 with
    | nil =>
      refine ⟨26, fun k hk => ?_⟩
      obtain ⟨k, rfl⟩ : ∃ k', k = k' + 1 := ⟨k - 1, by omega⟩
      unfold impl_PlayRow.l0
      rw [allTurns_ev r row k hr (by omega) (by omega), Option.bind_some, hT, if_pos (by simp)]
    | cons t l =>
      by_cases h300 : acc.length = 300
      · refine ⟨26, fun k hk => ?_⟩
        obtain ⟨k, rfl⟩ : ∃ k', k = k' + 1 := ⟨k - 1, by omega⟩
        unfold impl_PlayRow.l0
        rw [allTurns_ev r row k hr (by omega) (by omega), Option.bind_some, hT, if_neg (by first | (simp; done) | (simp; omega)), if_pos (by first | (simp; done) | (simp; omega))]
        simp only [h300, if_true]
        rfl
      · have hp := pick_lt hr hT
        obtain ⟨K, hK⟩ := ih (row ^^^ pick r row t) (acc ++ [pick r row t]) (Nat.xor_lt_two_pow hrow hp) (by first | (simp; done) | (simp; omega)) (by first | (simp; done) | (simp; omega))
        refine ⟨K + 26, fun k hk => ?_⟩
        obtain ⟨k, rfl⟩ : ∃ k', k = k' + 1 := ⟨k - 1, by omega⟩
        have hk2 := hK k (by omega)
        unfold impl_PlayRow.l0
        rw [allTurns_ev r row k hr (by omega) (by omega), Option.bind_some, hT, if_neg (by first | (simp; done) | (simp; omega)), if_neg (by first | (simp; done) | (simp; omega)), if_pos (by first | (simp; done) | (simp; omega)), winning_ev (V r) (V_len hr) (V_lt hr) r row hr hrow, Option.bind_some]
        simp only [if_neg h300]
        cases hw : wins (V r) r row with
        | nil =>
          have hpe : pick r row t = t := by unfold pick; rw [hw]
          rw [hpe] at hk2 ⊢ hp
          rw [if_neg (by simp), if_pos (by first | (simp; done) | (simp; omega)), show rd (ints (t :: l)) 0 = (t : Int) from rfl, xor_nat32 (by omega) (by omega)]
          rw [show ints acc ++ [(t : Int)] = ints (acc ++ [t]) by simp]
          exact hk2
        | cons w l2 =>
          have hpe : pick r row t = w := by unfold pick; rw [hw]
          rw [hpe] at hk2 ⊢ hp
          rw [if_pos (by first | (simp; done) | (simp; omega)), if_pos (by first | (simp; done) | (simp; omega)), if_pos (by first | (simp; done) | (simp; omega)), show rd (ints (w :: l2)) 0 = (w : Int) from rfl, xor_nat32 (by omega) (by omega)]
          rw [show ints acc ++ [(w : Int)] = ints (acc ++ [w]) by simp]
          exact hk2
theorem play_spec {r : Nat} (hr : r < 6) : ∀ (n row : Nat) (acc : List Nat), row < 2 ^ 24 → acc.length ≤ 300 → acc.length + n = 301 → ∃ K, ∀ k, K ≤ k → spec_PlayRow.l0 k (r : Int) (row : Int) (ints acc) = some (ints (playM r n row acc).1, (playM r n row acc).2) := by
  intro n
  induction n with
  | zero => intro row acc _ h1 h2; omega
  | succ n ih =>
    intro row acc hrow ha hn
    obtain ⟨KW, hKW⟩ := winning_spec (row := row) hr hrow
    have hany : ∀ k, 1100 ≤ k → spec_l04Any.f k (r : Int) (row : Int) = some (match turnsFrom r row 0 24 with | [] => (0, false) | m :: _ => ((m : Int), true)) := fun k hk => any_l0 hr (by omega) 24 0 k rfl (by omega)
    unfold playM
    cases hT : turnsFrom r row 0 24 with
    | nil =>
      refine ⟨1101, fun k hk => ?_⟩
      obtain ⟨k, rfl⟩ : ∃ k', k = k' + 1 := ⟨k - 1, by omega⟩
      have h1 := hany k (by omega)
      rw [hT] at h1
      unfold spec_PlayRow.l0
      rw [h1, Option.bind_some, if_neg (by simp)]
    | cons t l =>
      by_cases h300 : acc.length = 300
      · refine ⟨max KW 1100 + 1, fun k hk => ?_⟩
        obtain ⟨k, rfl⟩ : ∃ k', k = k' + 1 := ⟨k - 1, by omega⟩
        have h1 := hany k (by omega)
        rw [hT] at h1
        unfold spec_PlayRow.l0
        rw [h1, Option.bind_some, if_pos rfl, hKW k (by omega), Option.bind_some]
        simp only [h300, if_true]
        cases hw : wins (V r) r row with
        | nil => rw [if_neg (by simp), if_pos (by first | (simp; done) | (simp; omega))]; rfl
        | cons w l2 => rw [if_pos (by first | (simp; done) | (simp; omega)), if_pos (by first | (simp; done) | (simp; omega)), if_pos (by first | (simp; done) | (simp; omega))]; rfl
      · have hp := pick_lt hr hT
        obtain ⟨K, hK⟩ := ih (row ^^^ pick r row t) (acc ++ [pick r row t]) (Nat.xor_lt_two_pow hrow hp) (by first | (simp; done) | (simp; omega)) (by first | (simp; done) | (simp; omega))
        refine ⟨max K (max KW 1100) + 1, fun k hk => ?_⟩
        obtain ⟨k, rfl⟩ : ∃ k', k = k' + 1 := ⟨k - 1, by omega⟩
        have hk2 := hK k (by omega)
        have h1 := hany k (by omega)
        rw [hT] at h1
        unfold spec_PlayRow.l0
        rw [h1, Option.bind_some, if_pos rfl, hKW k (by omega), Option.bind_some]
        simp only [if_neg h300]
        cases hw : wins (V r) r row with
        | nil =>
          have hpe : pick r row t = t := by unfold pick; rw [hw]
          rw [hpe] at hk2 ⊢ hp
          rw [if_neg (by simp), if_neg (by first | (simp; done) | (simp; omega)), if_pos (by first | (simp; done) | (simp; omega)), xor_nat32 (by omega) (by omega)]
          rw [show ints acc ++ [(t : Int)] = ints (acc ++ [t]) by simp]
          exact hk2
        | cons w l2 =>
          have hpe : pick r row t = w := by unfold pick; rw [hw]
          rw [hpe] at hk2 ⊢ hp
          rw [if_pos (by first | (simp; done) | (simp; omega)), if_pos (by first | (simp; done) | (simp; omega)), if_neg (by first | (simp; done) | (simp; omega)), if_pos (by first | (simp; done) | (simp; omega)), show rd (ints (w :: l2)) 0 = (w : Int) from rfl, xor_nat32 (by omega) (by omega)]
          rw [show ints acc ++ [(w : Int)] = ints (acc ++ [w]) by simp]
          exact hk2
theorem rule_nat {a0 : Int} (h0 : 0 ≤ a0) (h1 : a0 ≤ 5) : ∃ r : Nat, a0 = r ∧ r < 6 := ⟨a0.toNat, by omega, by omega⟩
/-- the codes of a rule and a row -/
theorem code_ok {r row : Nat} (hr6 : r < 6) (hrow : row < 16777216) : impl_rowRule.f (r : Int) (row : Int) = some 0 ∧ spec_l04Row.f (r : Int) (row : Int) = some 0 := by
  refine ⟨?_, ?_⟩
  · simp only [impl_rowRule.f, impl_isRule.f, impl_within.f]
    rw [if_pos (by omega), Option.bind_some, Option.bind_some, if_pos (decide_eq_true (by omega)), if_pos (by omega)]
  · simp only [spec_l04Row.f, spec_l04Rule.f, spec_l00In.f]
    rw [if_pos (by omega), Option.bind_some, Option.bind_some, if_pos (decide_eq_true (by omega)), if_pos (by omega)]
theorem code_limit {r row : Nat} (hr6 : r < 6) (hrow : ¬ row < 16777216) : impl_rowRule.f (r : Int) (row : Int) = some 3 ∧ spec_l04Row.f (r : Int) (row : Int) = some 3 := by
  refine ⟨?_, ?_⟩
  · simp only [impl_rowRule.f, impl_isRule.f, impl_within.f]
    rw [if_pos (by omega), Option.bind_some, Option.bind_some, if_pos (decide_eq_true (by omega)), if_neg (by omega)]
  · simp only [spec_l04Row.f, spec_l04Rule.f, spec_l00In.f]
    rw [if_pos (by omega), Option.bind_some, Option.bind_some, if_pos (decide_eq_true (by omega)), if_neg (by omega)]
theorem code_range {a0 : Int} (a1 : Int) (hr : ¬ (0 ≤ a0 ∧ a0 ≤ 5)) : impl_rowRule.f a0 a1 = some 2 ∧ spec_l04Row.f a0 a1 = some 2 := by
  have hd : decide (a0 ≤ 5) = true → ¬ 0 ≤ a0 := fun h h0 => hr ⟨h0, of_decide_eq_true h⟩
  refine ⟨?_, ?_⟩
  · simp only [impl_rowRule.f, impl_isRule.f, impl_within.f]
    by_cases h0 : 0 ≤ a0
    · rw [if_pos h0, Option.bind_some, Option.bind_some, if_neg (fun h => hd h h0)]
    · rw [if_neg h0]; rfl
  · simp only [spec_l04Row.f, spec_l04Rule.f, spec_l00In.f]
    by_cases h0 : 0 ≤ a0
    · rw [if_pos h0, Option.bind_some, Option.bind_some, if_neg (fun h => hd h h0)]
    · rw [if_neg h0]; rfl
theorem play_both {a0 a1 : Int} (hu : 0 ≤ a1 ∧ a1 < 4294967296) : ∃ (L : List Nat) (c : Int) (K : Nat), L.length ≤ 300 ∧ ∀ k, K ≤ k → impl_PlayRow.f k a0 a1 = some (ints L, c) ∧ spec_PlayRow.f k a0 a1 = some (ints L, c) := by
  by_cases hr : 0 ≤ a0 ∧ a0 ≤ 5
  · obtain ⟨r, rfl, hr6⟩ := rule_nat hr.1 hr.2
    obtain ⟨row, rfl⟩ : ∃ row : Nat, a1 = row := ⟨a1.toNat, by omega⟩
    by_cases hrow : row < 16777216
    · obtain ⟨K1, h1⟩ := coinValues_ev (N := 24) hr6 (Nat.le_refl _)
      obtain ⟨K2, h2⟩ := play_impl hr6 301 row [] hrow (by simp) rfl
      obtain ⟨K3, h3⟩ := play_spec hr6 301 row [] hrow (by simp) rfl
      refine ⟨(playM r 301 row []).1, (playM r 301 row []).2, max K1 (max K2 K3), play_len r _ _ _ (by simp), fun k hk => ?_⟩
      have e1 := h1 k (by omega)
      rw [V_full hr6, show ((24 : Nat) : Int) = 24 from rfl] at e1
      refine ⟨?_, ?_⟩
      · unfold impl_PlayRow.f
        rw [(code_ok hr6 hrow).1, Option.bind_some, if_pos rfl, e1, Option.bind_some]
        exact h2 k (by omega)
      · unfold spec_PlayRow.f
        rw [(code_ok hr6 hrow).2, Option.bind_some, if_pos rfl]
        exact h3 k (by omega)
    · refine ⟨[], 3, 0, by simp, fun k _ => ?_⟩
      simp [impl_PlayRow.f, spec_PlayRow.f, (code_limit hr6 hrow).1, (code_limit hr6 hrow).2]
  · refine ⟨[], 2, 0, by simp, fun k _ => ?_⟩
    simp [impl_PlayRow.f, spec_PlayRow.f, (code_range a1 hr).1, (code_range a1 hr).2]

/-- a row that is played, turn by turn -/
def runM (r : Nat) : Nat → List Nat → Option Nat
  | now, [] => some now
  | now, m :: l => if impl_TurnRow.f 10 (r : Int) (now : Int) (m : Int) = some (((now ^^^ m : Nat) : Int), 0) then runM r (now ^^^ m) l else none
def playOk (r row : Nat) : Bool := decide ((playM r 301 row []).2 = 0) && (match runM r row (playM r 301 row []).1 with
  | some now => decide (now < 2 ^ 24) && ((List.range 8).all fun c => decide (now >>> c % 2 = 1 → T r c = [])) && (decide ((playM r 301 row []).1.length % 2 = 1) == decide (xs (V r) row ≠ 0))
  | none => false)
set_option maxHeartbeats 40000000 in
set_option maxRecDepth 1000000 in
theorem playAll : ∀ r, r < 6 → ((List.range 64).all fun row => playOk r row) = true
  | 0, _ => by decide +kernel
  | 1, _ => by decide +kernel
  | 2, _ => by decide +kernel
  | 3, _ => by decide +kernel
  | 4, _ => by decide +kernel
  | 5, _ => by decide +kernel
  | n + 6, h => by omega
theorem sameTurns_ev (l : List Int) (h : l.length ≤ 1048576) : ∃ K, ∀ k, K ≤ k → spec_SameTurns.f k l l = some true :=
  eq_refl_ev (fun _ _ _ => rfl) (fun _ _ _ _ => rfl) l (by omega)
theorem turnsAt_ok {r c : Nat} (hr : r < 6) (hc : c < 24) : impl_TurnsAt.f (r : Int) (c : Int) = some (ints (T r c), 0) := by
  simp only [impl_TurnsAt.f, impl_isRule.f, impl_within.f]
  rw [if_pos (by omega), Option.bind_some, Option.bind_some, if_pos (decide_eq_true (by omega)), if_pos (by omega), Option.bind_some, if_pos (decide_eq_true (by omega)), (T_spec hr hc).1, Option.bind_some]
theorem coins_l1 {r : Nat} (hr : r < 6) (L : List Int) (v : Int) (now : Nat) (hnow : now < 2 ^ 24) (hall : ∀ c, c < 8 → now >>> c % 2 = 1 → T r c = []) : ∀ (n c k : Nat), c + n = 8 → n < k →
    laws_FnRowsPlayed.l1 k (r : Int) L v (now : Int) (c : Int) = some ((((L.length : Int) % 2) == 1) == (v != 0)) := by
  intro n
  induction n with
  | zero =>
    intro c k hc hk
    obtain ⟨k, rfl⟩ : ∃ k', k = k' + 1 := ⟨k - 1, by omega⟩
    simp only [laws_FnRowsPlayed.l1]
    rw [if_neg (by omega)]
  | succ n ih =>
    intro c k hc hk
    obtain ⟨k, rfl⟩ : ∃ k', k = k' + 1 := ⟨k - 1, by omega⟩
    simp only [laws_FnRowsPlayed.l1]
    rw [if_pos (by omega), turnsAt_ok hr (by omega), Option.bind_some, if_pos rfl, wraps_u64 (by omega), if_pos (by omega), bit_and (by omega) (by omega), w64s (by omega)]
    by_cases hb : now >>> c % 2 = 1
    · rw [if_pos (by omega), hall c (by omega) hb, if_neg (by simp)]
      exact ih (c + 1) k (by omega) (by omega)
    · rw [if_neg (by omega)]
      exact ih (c + 1) k (by omega) (by omega)
theorem turns_l0 {r : Nat} (L : List Nat) (hL : L.length ≤ 300) (v : Int) (res : Bool) (fin : Nat) (K0 : Nat) (hK0 : ∀ k, K0 ≤ k → laws_FnRowsPlayed.l1 k (r : Int) (ints L) v (fin : Int) 0 = some res) :
    ∀ (n d now k : Nat), d + n = L.length → runM r now (L.drop d) = some fin → K0 + 12 + n < k → laws_FnRowsPlayed.l0 k (r : Int) (ints L) v (now : Int) (d : Int) = some res := by
  intro n
  induction n with
  | zero =>
    intro d now k hd hrun hk
    obtain ⟨k, rfl⟩ : ∃ k', k = k' + 1 := ⟨k - 1, by omega⟩
    rw [List.drop_of_length_le (by omega)] at hrun
    obtain rfl : now = fin := Option.some.inj hrun
    simp only [laws_FnRowsPlayed.l0]
    rw [if_neg (by simp; omega)]
    exact hK0 k (by omega)
  | succ n ih =>
    intro d now k hd hrun hk
    obtain ⟨k, rfl⟩ : ∃ k', k = k' + 1 := ⟨k - 1, by omega⟩
    have hdl : d < L.length := by omega
    rw [List.drop_eq_getElem_cons hdl] at hrun
    unfold runM at hrun
    by_cases ht : impl_TurnRow.f 10 (r : Int) (now : Int) ((L[d] : Nat) : Int) = some (((now ^^^ L[d] : Nat) : Int), 0)
    · rw [if_pos ht] at hrun
      have ht2 := lift (impl_TurnRow.mono _ _ _) ht k (by omega)
      simp only [laws_FnRowsPlayed.l0]
      rw [if_pos (by simp; omega), if_pos (by omega), ints_rd, show L.getD d 0 = L[d] by simp [List.getD, hdl], ht2, Option.bind_some, if_pos rfl, w64s (by omega)]
      exact ih (d + 1) _ k (by omega) hrun (by omega)
    · rw [if_neg ht] at hrun; cases hrun
/-- what is drawn from bytes -/
theorem next_ev (l : List Int) (hw : ∀ x ∈ l, (Lit.int .u8 x).wf = true) (at_ seed : Int) (h0 : 0 ≤ at_) (h1 : at_ ≤ 1000) : ∃ v s, 0 ≤ v ∧ v ≤ 255 ∧ spec_l00Src_next.f l at_ seed = some (v, at_ + 1, s) := by
  have hm : maxLen = 9223372036854775807 := rfl
  have hw1 : wrap64 (at_ + 1) = at_ + 1 := w64i (by omega) (by omega)
  have hband : ∀ x : Int, 0 ≤ wrap64 (Go.bits .and .u64 ((IntKind.u64.wrap x) / 1099511627776) 255) ∧ wrap64 (Go.bits .and .u64 ((IntKind.u64.wrap x) / 1099511627776) 255) ≤ 255 := fun x => by
    have h2 : 0 ≤ IntKind.u64.wrap x ∧ IntKind.u64.wrap x < 18446744073709551616 := by simp [IntKind.wrap, IntKind.bits, IntKind.signed]; omega
    have h3 := bits_mask .u64 32 (by decide) (fun n g0 g1 => by simp [IntKind.wrap, IntKind.bits, IntKind.signed]; omega) 8 (by decide) (IntKind.u64.wrap x / 1099511627776) (by omega) (by omega)
    rw [show (2 : Int) ^ 8 - 1 = 255 by decide, show (2 : Int) ^ 8 = 256 by decide] at h3
    rw [h3, w64i (by omega) (by omega)]
    omega
  unfold spec_l00Src_next.f
  rw [hw1]
  by_cases hlt : at_ < (l.length : Int)
  · have hx : 0 ≤ rd l at_ ∧ rd l at_ ≤ 255 := by
      obtain ⟨i, rfl⟩ : ∃ i : Nat, at_ = i := ⟨at_.toNat, by omega⟩
      rw [rd_nat, List.getD_eq_getElem?_getD, List.getElem?_eq_getElem (by omega)]
      have := hw l[i] (List.getElem_mem _)
      simp [Lit.wf, IntKind.min, IntKind.max, IntKind.bits, IntKind.signed] at this
      simp; omega
    rw [if_pos hlt, if_pos h0, if_pos (by omega), w64i (by omega) (by omega)]
    exact ⟨_, _, hx.1, hx.2, rfl⟩
  · rw [if_neg hlt]
    by_cases h2 : at_ + 1 ≤ (l.length : Int)
    · rw [if_pos h2]; exact ⟨_, _, by decide, by decide, rfl⟩
    · rw [if_neg h2]
      exact ⟨_, _, (hband _).1, (hband _).2, rfl⟩
theorem pick_ev (l : List Int) (hw : ∀ x ∈ l, (Lit.int .u8 x).wf = true) : ∃ r : Nat, r < 6 ∧ spec_P6Pick.f l 6 = some (r : Int) := by
  obtain ⟨v, s, h0, h1, h⟩ := next_ev l hw 0 0 (by decide) (by decide)
  refine ⟨(Int.tmod v 6).toNat, ?_, ?_⟩
  · have := Int.tmod_eq_emod_of_nonneg (b := 6) h0; omega
  · have ht := Int.tmod_eq_emod_of_nonneg (b := 6) h0
    simp only [spec_P6Pick.f, spec_l00From.f, spec_l00Src_pick.f, Option.bind_some, h]
    rw [if_neg (by decide), if_neg (by decide), if_neg (by decide), Option.bind_some]
    congr 1; omega
theorem row_ev (l : List Int) (hw : ∀ x ∈ l, (Lit.int .u8 x).wf = true) : ∃ row : Nat, row < 1024 ∧ spec_P6Row.f l = some (row : Int) := by
  obtain ⟨v, s, h0, h1, h⟩ := next_ev l hw 0 0 (by decide) (by decide)
  obtain ⟨v2, s2, g0, g1, g⟩ := next_ev l hw (0 + 1) s (by decide) (by decide)
  have e1 : wrap64 (v * 256) = v * 256 := w64i (by omega) (by omega)
  have e2 : wrap64 (v * 256 + v2) = v * 256 + v2 := w64i (by omega) (by omega)
  have ht := Int.tmod_eq_emod_of_nonneg (a := v * 256 + v2) (b := 1024) (by omega)
  refine ⟨(Int.tmod (v * 256 + v2) 1024).toNat, by omega, ?_⟩
  simp only [spec_P6Row.f, spec_l00From.f, spec_l00Src_pick.f, Option.bind_some, h]
  rw [if_neg (by decide), if_pos (by decide)]
  simp only [g, Option.bind_some, e1, e2]
  rw [if_neg (by decide), Option.bind_some]
  congr 1; omega
theorem FnRowsPlayed : laws_FnRowsPlayed.Pure := by
  intro l0 l1 _ _ hw0 _ _ hw1
  unfold laws_FnRowsPlayed.f laws_f6big.f
  by_cases h0 : (l0.length : Int) > 4096
  · refine ⟨1, ?_⟩
    rw [Option.bind_some, if_pos (decide_eq_true h0)]
    simp only [laws_FnRowsPlayed.j0]
    rfl
  by_cases h1 : (l1.length : Int) > 4096
  · refine ⟨1, ?_⟩
    rw [Option.bind_some, if_neg (by simpa using h0), Option.bind_some, decide_eq_true h1]
    simp only [laws_FnRowsPlayed.j0]
    rfl
  obtain ⟨r, hr6, hr⟩ := pick_ev l0 hw0
  obtain ⟨row0, _, hrow0⟩ := row_ev l1 hw1
  obtain ⟨row, hrow64, hrow⟩ : ∃ row : Nat, row < 64 ∧ Go.bits .and .u32 (row0 : Int) 63 = (row : Int) := by
    refine ⟨row0 &&& 63, Nat.lt_of_le_of_lt Nat.and_le_right (by decide), ?_⟩
    exact and_nat32 (b := 63) (by omega) (by decide)
  have hrow24 : row < 2 ^ 24 := by omega
  have hok := List.all_eq_true.1 (playAll r hr6) row (List.mem_range.2 hrow64)
  unfold playOk at hok
  obtain ⟨L, hL⟩ : ∃ L, (playM r 301 row []).1 = L := ⟨_, rfl⟩
  obtain ⟨c, hc⟩ : ∃ c, (playM r 301 row []).2 = c := ⟨_, rfl⟩
  have hlen : L.length ≤ 300 := by rw [← hL]; exact play_len r _ _ _ (by simp)
  obtain ⟨K2, h2⟩ := play_impl hr6 301 row [] hrow24 (by simp) rfl
  obtain ⟨K3, h3⟩ := play_spec hr6 301 row [] hrow24 (by simp) rfl
  rw [hL, hc] at hok h2 h3
  simp only [Bool.and_eq_true, decide_eq_true_eq] at hok
  obtain ⟨rfl, hok⟩ := hok
  cases hrun : runM r row L with
  | none => rw [hrun] at hok; simp at hok
  | some fin =>
    rw [hrun] at hok
    simp only [Bool.and_eq_true, decide_eq_true_eq, List.all_eq_true, List.mem_range] at hok
    obtain ⟨⟨hfin, hall⟩, hpar⟩ := hok
    obtain ⟨K1, h1'⟩ := coinValues_ev (N := 24) hr6 (Nat.le_refl _)
    obtain ⟨K4, h4⟩ := sameTurns_ev (ints L) (by simp; omega)
    obtain ⟨M, hM⟩ : ∃ M, M = K1 + K2 + K3 + K4 + 400 := ⟨_, rfl⟩
    refine ⟨M + 1 + 1, ?_⟩
    rw [Option.bind_some, if_neg (by simpa using h0), Option.bind_some, decide_eq_false h1]
    simp only [laws_FnRowsPlayed.j0]
    have e1 := h1' (M + 1) (by omega)
    rw [V_full hr6, show ((24 : Nat) : Int) = 24 from rfl] at e1
    have hv : impl_RowValue.f (M + 1) (r : Int) (row : Int) = some (((xs (V r) row : Nat) : Int), 0) := by
      unfold impl_RowValue.f
      rw [(code_ok hr6 (by omega)).1, Option.bind_some, if_pos rfl, e1, Option.bind_some, rowOf_ev (V r) (by rw [V_len hr6]; decide) (V_lt hr6) _ row (by omega) (by rw [V_len hr6]; exact hrow24), Option.bind_some]
    have hpi : impl_PlayRow.f (M + 1) (r : Int) (row : Int) = some (ints L, 0) := by
      unfold impl_PlayRow.f
      rw [(code_ok hr6 (by omega)).1, Option.bind_some, if_pos rfl, e1, Option.bind_some]
      exact h2 _ (by omega)
    have hps : spec_PlayRow.f (M + 1) (r : Int) (row : Int) = some (ints L, 0) := by
      unfold spec_PlayRow.f
      rw [(code_ok hr6 (by omega)).2, Option.bind_some, if_pos rfl]
      exact h3 _ (by omega)
    rw [if_neg (by simp), hr, Option.bind_some, hrow0, Option.bind_some, hrow, hpi, Option.bind_some, hps, Option.bind_some, hv, Option.bind_some, if_pos rfl, h4 _ (by omega), Option.bind_some, if_pos rfl]
    simp only [laws_FnRowsPlayed.j1]
    rw [if_neg (by simp), if_pos trivial]
    refine turns_l0 L hlen _ true fin 9 (fun k hk => ?_) L.length 0 row M (by omega) (by simpa using hrun) (by omega)
    have h5 := coins_l1 hr6 (ints L) ((xs (V r) row : Nat) : Int) fin hfin hall 8 0 k rfl (by omega)
    rw [show ((0 : Nat) : Int) = 0 from rfl] at h5
    rw [h5]
    refine congrArg some ?_
    have e6 : (((ints L).length : Int) % 2 == 1) = decide (L.length % 2 = 1) := by
      rw [List.length_map]
      by_cases hp : L.length % 2 = 1
      · rw [decide_eq_true hp]; exact beq_iff_eq.2 (by omega)
      · rw [decide_eq_false hp]; exact beq_eq_false_iff_ne.2 (by omega)
    have e7 : (((xs (V r) row : Nat) : Int) != 0) = decide (xs (V r) row ≠ 0) := by
      by_cases hp : xs (V r) row = 0
      · rw [hp]; rfl
      · rw [decide_eq_true hp]; exact bne_iff_ne.2 (by omega)
    rw [e6, e7]
    exact hpar

end Go.Proofs.YtkgnjfoclhkgkaaDoor.Pure
