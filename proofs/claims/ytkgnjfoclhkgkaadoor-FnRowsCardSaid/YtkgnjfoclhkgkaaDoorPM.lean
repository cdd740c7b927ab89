/- The values of coins, as the program and the reference compute them. -/
import Derived.Test.YtkgnjfoclhkgkaaDoorProg
import Derived.Below
import Derived.Deep.Draws
import Derived.Deep.AppendLies
import Derived.Maps.AppendAt
import Derived.OwnWalk
import Derived.Laws.BytesArg
import Derived.Laws.MakeOwn
import Derived.Laws.OwnMore
import Derived.Deep.OwnRows
import Derived.Tactics
import Derived.Lib.ConvBytes
import Derived.Laws.Slices
import Derived.WalkKit
import Derived.KernelRfl
import Derived.RowKit3
import Derived.Deep.LoopGhost
import Derived.Deep.QuietTactic
import Derived.BigQuiet
import Derived.WideLaws
import Derived.Deep.DeepCutAuto
import Derived.Deep.CutBlock
import Derived.Deep.RegionHeld3
import Derived.Laws.Rows
import Derived.Lib.AppendStr
import Derived.ArgAppend
import Derived.Laws.IdiomCopy
import Derived.OrdersHeld
import Derived.Laws.BitsLemmas
import Derived.RowKit
import Derived.Lib.Hide
import Derived.WalkSpells
import Derived.Test.YtkgnjfoclhkgkaaDoorWWords
import Derived.Test.YtkgnjfoclhkgkaaDoorWLast
import Derived.Test.YtkgnjfoclhkgkaaDoorWTab
import Derived.Test.YtkgnjfoclhkgkaaDoorWQPut
import Derived.Test.YtkgnjfoclhkgkaaDoorWApart
import Derived.Test.YtkgnjfoclhkgkaaDoorWArr
import Derived.Test.YtkgnjfoclhkgkaaDoorWZeros
import Derived.Test.YtkgnjfoclhkgkaaDoorWFoot
import Derived.Test.YtkgnjfoclhkgkaaDoorWKept
import Derived.Test.YtkgnjfoclhkgkaaDoorWShare
import Derived.Test.YtkgnjfoclhkgkaaDoorWN
import Derived.Test.YtkgnjfoclhkgkaaDoorWNEv
import Derived.Test.YtkgnjfoclhkgkaaDoorWMore
import Derived.Test.YtkgnjfoclhkgkaaDoorN1
import Derived.Test.YtkgnjfoclhkgkaaDoorPG
import Derived.Test.YtkgnjfoclhkgkaaDoorRFnRowsx7
namespace Go.Proofs.YtkgnjfoclhkgkaaDoor.Given
open Go.RowKit Go.Proofs.YtkgnjfoclhkgkaaDoorW.PrintWords Go.Proofs.YtkgnjfoclhkgkaaDoorW.PrintLast Go.Proofs.YtkgnjfoclhkgkaaDoorW.PrintMore Go.Proofs.YtkgnjfoclhkgkaaDoor.NimF Go.Proofs.YtkgnjfoclhkgkaaDoor.NimGo
set_option linter.unusedVariables false
set_option linter.unusedSimpArgs false
open Go.Proofs.YtkgnjfoclhkgkaaDoor.RRO
open Go.Proofs.YtkgnjfoclhkgkaaDoor.RMT
open Go.Proofs.YtkgnjfoclhkgkaaDoor.RAT
open Go.Proofs.YtkgnjfoclhkgkaaDoor.RLN
open Go.Proofs.YtkgnjfoclhkgkaaDoor.ROC
open Go.Proofs.YtkgnjfoclhkgkaaDoor.RFnRows
def mexOk (r c : Nat) : Bool := decide (impl_mex.f 700 (ints (vals r c)) = some (((V r).getD c 0 : Nat) : Int)) && decide (spec_l03Least.f 700 (ints (vals r c)) = some (((V r).getD c 0 : Nat) : Int)) && decide (spec_l04Turns.f 800 (r : Int) (c : Int) = some (ints (T r c)))
set_option maxHeartbeats 40000000 in
set_option maxRecDepth 1000000 in
theorem m3_0 : mexOk 3 0 = true := by decide +kernel
set_option maxHeartbeats 40000000 in
set_option maxRecDepth 1000000 in
theorem m3_1 : mexOk 3 1 = true := by decide +kernel
set_option maxHeartbeats 40000000 in
set_option maxRecDepth 1000000 in
theorem m3_2 : mexOk 3 2 = true := by decide +kernel
set_option maxHeartbeats 40000000 in
set_option maxRecDepth 1000000 in
theorem m3_3 : mexOk 3 3 = true := by decide +kernel
set_option maxHeartbeats 40000000 in
set_option maxRecDepth 1000000 in
theorem m3_4 : mexOk 3 4 = true := by decide +kernel
set_option maxHeartbeats 40000000 in
set_option maxRecDepth 1000000 in
theorem m3_5 : mexOk 3 5 = true := by decide +kernel
set_option maxHeartbeats 40000000 in
set_option maxRecDepth 1000000 in
theorem m3_6 : mexOk 3 6 = true := by decide +kernel
set_option maxHeartbeats 40000000 in
set_option maxRecDepth 1000000 in
theorem m3_7 : mexOk 3 7 = true := by decide +kernel
set_option maxHeartbeats 40000000 in
set_option maxRecDepth 1000000 in
theorem m3_8 : mexOk 3 8 = true := by decide +kernel
set_option maxHeartbeats 40000000 in
set_option maxRecDepth 1000000 in
theorem m3_9 : mexOk 3 9 = true := by decide +kernel
set_option maxHeartbeats 40000000 in
set_option maxRecDepth 1000000 in
theorem m3_10 : mexOk 3 10 = true := by decide +kernel
set_option maxHeartbeats 40000000 in
set_option maxRecDepth 1000000 in
theorem m3_11 : mexOk 3 11 = true := by decide +kernel
set_option maxHeartbeats 40000000 in
set_option maxRecDepth 1000000 in
theorem m3_12 : mexOk 3 12 = true := by decide +kernel
set_option maxHeartbeats 40000000 in
set_option maxRecDepth 1000000 in
theorem m3_13 : mexOk 3 13 = true := by decide +kernel
set_option maxHeartbeats 40000000 in
set_option maxRecDepth 1000000 in
theorem m3_14 : mexOk 3 14 = true := by decide +kernel
set_option maxHeartbeats 40000000 in
set_option maxRecDepth 1000000 in
theorem m3_15 : mexOk 3 15 = true := by decide +kernel
set_option maxHeartbeats 40000000 in
set_option maxRecDepth 1000000 in
theorem m3_16 : mexOk 3 16 = true := by decide +kernel
set_option maxHeartbeats 40000000 in
set_option maxRecDepth 1000000 in
theorem m3_17 : mexOk 3 17 = true := by decide +kernel
set_option maxHeartbeats 40000000 in
set_option maxRecDepth 1000000 in
theorem m3_18 : mexOk 3 18 = true := by decide +kernel
set_option maxHeartbeats 40000000 in
set_option maxRecDepth 1000000 in
theorem m3_19 : mexOk 3 19 = true := by decide +kernel
set_option maxHeartbeats 40000000 in
set_option maxRecDepth 1000000 in
theorem m3_20 : mexOk 3 20 = true := by decide +kernel
set_option maxHeartbeats 40000000 in
set_option maxRecDepth 1000000 in
theorem m3_21 : mexOk 3 21 = true := by decide +kernel
set_option maxHeartbeats 40000000 in
set_option maxRecDepth 1000000 in
theorem m3_22 : mexOk 3 22 = true := by decide +kernel
set_option maxHeartbeats 40000000 in
set_option maxRecDepth 1000000 in
theorem m3_23 : mexOk 3 23 = true := by decide +kernel
theorem mc3 : ∀ c, c < 24 → mexOk 3 c = true
  | 0, _ => m3_0
  | 1, _ => m3_1
  | 2, _ => m3_2
  | 3, _ => m3_3
  | 4, _ => m3_4
  | 5, _ => m3_5
  | 6, _ => m3_6
  | 7, _ => m3_7
  | 8, _ => m3_8
  | 9, _ => m3_9
  | 10, _ => m3_10
  | 11, _ => m3_11
  | 12, _ => m3_12
  | 13, _ => m3_13
  | 14, _ => m3_14
  | 15, _ => m3_15
  | 16, _ => m3_16
  | 17, _ => m3_17
  | 18, _ => m3_18
  | 19, _ => m3_19
  | 20, _ => m3_20
  | 21, _ => m3_21
  | 22, _ => m3_22
  | 23, _ => m3_23
  | n + 24, h => by omega
set_option maxHeartbeats 40000000 in
set_option maxRecDepth 1000000 in
theorem m5_0 : mexOk 5 0 = true := by decide +kernel
set_option maxHeartbeats 40000000 in
set_option maxRecDepth 1000000 in
theorem m5_1 : mexOk 5 1 = true := by decide +kernel
set_option maxHeartbeats 40000000 in
set_option maxRecDepth 1000000 in
theorem m5_2 : mexOk 5 2 = true := by decide +kernel
set_option maxHeartbeats 40000000 in
set_option maxRecDepth 1000000 in
theorem m5_3 : mexOk 5 3 = true := by decide +kernel
set_option maxHeartbeats 40000000 in
set_option maxRecDepth 1000000 in
theorem m5_4 : mexOk 5 4 = true := by decide +kernel
set_option maxHeartbeats 40000000 in
set_option maxRecDepth 1000000 in
theorem m5_5 : mexOk 5 5 = true := by decide +kernel
set_option maxHeartbeats 40000000 in
set_option maxRecDepth 1000000 in
theorem m5_6 : mexOk 5 6 = true := by decide +kernel
set_option maxHeartbeats 40000000 in
set_option maxRecDepth 1000000 in
theorem m5_7 : mexOk 5 7 = true := by decide +kernel
set_option maxHeartbeats 40000000 in
set_option maxRecDepth 1000000 in
theorem m5_8 : mexOk 5 8 = true := by decide +kernel
set_option maxHeartbeats 40000000 in
set_option maxRecDepth 1000000 in
theorem m5_9 : mexOk 5 9 = true := by decide +kernel
set_option maxHeartbeats 40000000 in
set_option maxRecDepth 1000000 in
theorem m5_10 : mexOk 5 10 = true := by decide +kernel
set_option maxHeartbeats 40000000 in
set_option maxRecDepth 1000000 in
theorem m5_11 : mexOk 5 11 = true := by decide +kernel
set_option maxHeartbeats 40000000 in
set_option maxRecDepth 1000000 in
theorem m5_12 : mexOk 5 12 = true := by decide +kernel
set_option maxHeartbeats 40000000 in
set_option maxRecDepth 1000000 in
theorem m5_13 : mexOk 5 13 = true := by decide +kernel
set_option maxHeartbeats 40000000 in
set_option maxRecDepth 1000000 in
theorem m5_14 : mexOk 5 14 = true := by decide +kernel
set_option maxHeartbeats 40000000 in
set_option maxRecDepth 1000000 in
theorem m5_15 : mexOk 5 15 = true := by decide +kernel
set_option maxHeartbeats 40000000 in
set_option maxRecDepth 1000000 in
theorem m5_16 : mexOk 5 16 = true := by decide +kernel
set_option maxHeartbeats 40000000 in
set_option maxRecDepth 1000000 in
theorem m5_17 : mexOk 5 17 = true := by decide +kernel
set_option maxHeartbeats 40000000 in
set_option maxRecDepth 1000000 in
theorem m5_18 : mexOk 5 18 = true := by decide +kernel
set_option maxHeartbeats 40000000 in
set_option maxRecDepth 1000000 in
theorem m5_19 : mexOk 5 19 = true := by decide +kernel
set_option maxHeartbeats 40000000 in
set_option maxRecDepth 1000000 in
theorem m5_20 : mexOk 5 20 = true := by decide +kernel
set_option maxHeartbeats 40000000 in
set_option maxRecDepth 1000000 in
theorem m5_21 : mexOk 5 21 = true := by decide +kernel
set_option maxHeartbeats 40000000 in
set_option maxRecDepth 1000000 in
theorem m5_22 : mexOk 5 22 = true := by decide +kernel
set_option maxHeartbeats 40000000 in
set_option maxRecDepth 1000000 in
theorem m5_23 : mexOk 5 23 = true := by decide +kernel
theorem mc5 : ∀ c, c < 24 → mexOk 5 c = true
  | 0, _ => m5_0
  | 1, _ => m5_1
  | 2, _ => m5_2
  | 3, _ => m5_3
  | 4, _ => m5_4
  | 5, _ => m5_5
  | 6, _ => m5_6
  | 7, _ => m5_7
  | 8, _ => m5_8
  | 9, _ => m5_9
  | 10, _ => m5_10
  | 11, _ => m5_11
  | 12, _ => m5_12
  | 13, _ => m5_13
  | 14, _ => m5_14
  | 15, _ => m5_15
  | 16, _ => m5_16
  | 17, _ => m5_17
  | 18, _ => m5_18
  | 19, _ => m5_19
  | 20, _ => m5_20
  | 21, _ => m5_21
  | 22, _ => m5_22
  | 23, _ => m5_23
  | n + 24, h => by omega
set_option maxHeartbeats 40000000 in
set_option maxRecDepth 1000000 in
theorem mexAll : ∀ r, r < 6 → ((List.range 24).all fun c => mexOk r c) = true
  | 0, _ => by decide +kernel
  | 1, _ => by decide +kernel
  | 2, _ => by decide +kernel
  | 3, _ => List.all_eq_true.2 (fun c hc => mc3 c (List.mem_range.1 hc))
  | 4, _ => by decide +kernel
  | 5, _ => List.all_eq_true.2 (fun c hc => mc5 c (List.mem_range.1 hc))
  | n + 6, h => by omega
theorem mexAt {r c : Nat} (hr : r < 6) (hc : c < 24) : (impl_mex.f 700 (ints (vals r c)) = some (((V r).getD c 0 : Nat) : Int) ∧ spec_l03Least.f 700 (ints (vals r c)) = some (((V r).getD c 0 : Nat) : Int)) ∧ spec_l04Turns.f 800 (r : Int) (c : Int) = some (ints (T r c)) := by
  have h := List.all_eq_true.1 (mexAll r hr) c (List.mem_range.2 hc)
  unfold mexOk at h
  simpa only [Bool.and_eq_true, decide_eq_true_eq] using h
theorem mex_ev {r c : Nat} (hr : r < 6) (hc : c < 24) : ∀ k, 700 ≤ k → impl_mex.f k (ints (vals r c)) = some (((V r).getD c 0 : Nat) : Int) := lift (impl_mex.mono _) (mexAt hr hc).1.1
theorem least_ev {r c : Nat} (hr : r < 6) (hc : c < 24) : ∀ k, 700 ≤ k → spec_l03Least.f k (ints (vals r c)) = some (((V r).getD c 0 : Nat) : Int) := lift (spec_l03Least.mono _) (mexAt hr hc).1.2
theorem turns_ev {r c : Nat} (hr : r < 6) (hc : c < 24) : ∀ k, 800 ≤ k → spec_l04Turns.f k (r : Int) (c : Int) = some (ints (T r c)) := lift (spec_l04Turns.mono _ _) (mexAt hr hc).2
theorem V_take {r c : Nat} (hr : r < 6) (hc : c < 24) : ints ((V r).take c) ++ [(((V r).getD c 0 : Nat) : Int)] = ints ((V r).take (c + 1)) := by
  have hl := V_len hr
  rw [List.take_add_one, List.getElem?_eq_getElem (by omega), ints, ints, List.map_append, List.getD_eq_getElem?_getD, List.getElem?_eq_getElem (show c < (V r).length by omega)]
  rfl
theorem V_at {r c : Nat} (hr : r < 6) (hc : c < 24) : (V r).getD c 0 < 65536 := by
  have hl := V_len hr
  rw [List.getD_eq_getElem?_getD, List.getElem?_eq_getElem (by omega)]
  exact V_lt hr _ (List.getElem_mem _)
theorem take_lt {r c : Nat} (hr : r < 6) : ∀ v ∈ (V r).take c, v < 65536 := fun v hv => V_lt hr v (List.mem_of_mem_take hv)
theorem ints_take (l : List Nat) (d : Nat) (h : d < l.length) : ints (l.take d) ++ [((l.getD d 0 : Nat) : Int)] = ints (l.take (d + 1)) := by
  rw [List.take_add_one, List.getElem?_eq_getElem h, ints, ints, List.map_append, List.getD_eq_getElem?_getD, List.getElem?_eq_getElem h]
  rfl
theorem vals_at (r c d : Nat) (h : d < (T r c).length) : (vals r c).getD d 0 = xs ((V r).take c) ((T r c).getD d 0) := by
  simp [vals, List.getD, h]
theorem T_mem {r c d : Nat} (h : d < (T r c).length) : (T r c).getD d 0 ∈ T r c := by simp [List.getD, h]
theorem cv_l1 {r c N : Nat} (hr : r < 6) (hc : c < 24) (res : List Int) (K0 : Nat) (hK0 : ∀ k, K0 ≤ k → impl_coinValues.l0 k (r : Int) (ints ((V r).take (c + 1))) (N : Int) ((c + 1 : Nat) : Int) = some res) :
    ∀ n d, d + n = (T r c).length → ∃ K, ∀ k, K ≤ k → impl_coinValues.l1 k (r : Int) (ints ((V r).take c)) (c : Int) (ints ((vals r c).take d)) (N : Int) (c : Int) (ints (T r c)) ((T r c).length : Int) (d : Int) = some res := by
  obtain ⟨h1, h2, h3⟩ := T_more hr hc
  have hvl : (vals r c).length = (T r c).length := by simp [vals]
  intro n
  induction n with
  | zero =>
    intro d hd
    refine ⟨max K0 700 + 1, fun k hk => ?_⟩
    obtain ⟨k, rfl⟩ : ∃ k', k = k' + 1 := ⟨k - 1, by omega⟩
    unfold impl_coinValues.l1
    rw [if_neg (by omega), List.take_of_length_le (by omega), mex_ev hr hc k (by omega), Option.bind_some, if_pos (by simp; omega), wraps16n (V_at hr hc), V_take hr hc, w64s (by omega)]
    exact hK0 k (by omega)
  | succ n ih =>
    intro d hd
    obtain ⟨K, hK⟩ := ih (d + 1) (by omega)
    refine ⟨max K 40 + 1, fun k hk => ?_⟩
    obtain ⟨k, rfl⟩ : ∃ k', k = k' + 1 := ⟨k - 1, by omega⟩
    have hdl : d < (T r c).length := by omega
    obtain ⟨⟨ha, hb⟩, hn⟩ := h2 _ (T_mem hdl)
    unfold impl_coinValues.l1
    rw [if_pos (by omega), if_pos (by omega), if_pos (by simp; omega), if_pos (by omega), ints_rd, hn]
    have hlen : ((V r).take c).length = c := by rw [List.length_take, V_len hr]; omega
    have hp : 2 ^ (c + 1) = 2 * 2 ^ c := by rw [Nat.pow_succ, Nat.mul_comm]
    rw [rowOf_ev _ (by omega) (take_lt hr) k _ (by omega) (by rw [hlen]; omega), Option.bind_some, if_pos (by simp; omega)]
    have hx : xs ((V r).take c) ((T r c).getD d 0 - 2 ^ c) = (vals r c).getD d 0 := by
      rw [vals_at r c d hdl, ← xs_mod _ ((T r c).getD d 0), hlen]
      congr 1
      rw [← Nat.sub_add_cancel ha, Nat.add_mod_right, Nat.mod_eq_of_lt (by omega)]
      omega
    rw [hx, ints_take _ _ (by omega), w64s (by omega)]
    exact hK k (by omega)
theorem cv_l0 {r N : Nat} (hr : r < 6) (hN : N ≤ 24) : ∀ n c, c + n = N → ∃ K, ∀ k, K ≤ k → impl_coinValues.l0 k (r : Int) (ints ((V r).take c)) (N : Int) (c : Int) = some (ints ((V r).take N)) := by
  intro n
  induction n with
  | zero =>
    intro c hc
    refine ⟨1, fun k hk => ?_⟩
    obtain ⟨k, rfl⟩ : ∃ k', k = k' + 1 := ⟨k - 1, by omega⟩
    unfold impl_coinValues.l0
    rw [if_neg (by omega), show c = N by omega]
  | succ n ih =>
    intro c hc
    obtain ⟨K0, hK0⟩ := ih (c + 1) (by omega)
    obtain ⟨K, hK⟩ := cv_l1 hr (show c < 24 by omega) _ K0 hK0 (T r c).length 0 (by omega)
    refine ⟨K + 1, fun k hk => ?_⟩
    obtain ⟨k, rfl⟩ : ∃ k', k = k' + 1 := ⟨k - 1, by omega⟩
    unfold impl_coinValues.l0
    rw [if_pos (by omega), (T_spec hr (show c < 24 by omega)).1, Option.bind_some]
    have := hK k (by omega)
    simpa using this
theorem coinValues_ev {r N : Nat} (hr : r < 6) (hN : N ≤ 24) : ∃ K, ∀ k, K ≤ k → impl_coinValues.f k (r : Int) (N : Int) = some (ints ((V r).take N)) := by
  obtain ⟨K, hK⟩ := cv_l0 hr hN N 0 (by omega)
  exact ⟨K, fun k hk => by have := hK k hk; simpa [impl_coinValues.f] using this⟩
theorem sum_l0 (l : List Nat) (hl : l.length ≤ 24) (hv : ∀ v ∈ l, v < 65536) (m : Nat) (hm : m < 2 ^ 32) : ∀ (k i s : Nat), i ≤ l.length → l.length - i < k → s < 65536 → spec_l04Sum.l0 k (ints l) (m : Int) (s : Int) (i : Int) = some ((s ^^^ xs (l.drop i) (m >>> i) : Nat) : Int) := by
  intro k
  induction k with
  | zero => intro i s _ h; exact absurd h (Nat.not_lt_zero _)
  | succ k ih =>
    intro i s hi hk hs
    unfold spec_l04Sum.l0
    by_cases hlt : i < l.length
    · rw [if_pos (by simp; omega), wraps_u64 (by omega), if_pos (by omega), bit_and hm (by omega), w64s (by omega), List.drop_eq_getElem_cons hlt]
      have hvi : l[i] < 65536 := hv _ (List.getElem_mem _)
      have hg : l.getD i 0 = l[i] := by simp [List.getD, hlt]
      simp only [xs]
      rw [← Nat.shiftRight_succ]
      by_cases hb : m >>> i % 2 = 1
      · rw [if_pos (by omega), if_pos (by omega), ints_rd, hg, xor16 hs hvi, ih (i + 1) _ (by omega) (by omega) (Nat.xor_lt_two_pow (n := 16) hs hvi), if_pos hb, Nat.xor_assoc]
      · rw [if_neg (by omega), ih (i + 1) _ (by omega) (by omega) hs, if_neg hb, Nat.zero_xor]
    · rw [if_neg (by simp; omega), List.drop_of_length_le (by omega)]
      simp [xs]
theorem sum_ev (l : List Nat) (hl : l.length ≤ 24) (hv : ∀ v ∈ l, v < 65536) (m k : Nat) (hm : m < 2 ^ 32) (hk : 25 ≤ k) : spec_l04Sum.f k (ints l) (m : Int) = some ((xs l m : Nat) : Int) := by
  unfold spec_l04Sum.f
  have := sum_l0 l hl hv m hm k 0 0 (Nat.zero_le _) (by omega) (by decide)
  simpa using this
theorem sv_l1 {r c N : Nat} (hr : r < 6) (hc : c < 24) (res : List Int) (K0 : Nat) (hK0 : ∀ k, K0 ≤ k → spec_l04Values.l0 k (r : Int) (N : Int) (ints ((V r).take (c + 1))) ((c + 1 : Nat) : Int) = some res) :
    ∀ n d, d + n = (T r c).length → ∃ K, ∀ k, K ≤ k → spec_l04Values.l1 k (r : Int) (N : Int) (ints ((V r).take c)) (c : Int) (ints ((vals r c).take d)) (ints (T r c)) (d : Int) = some res := by
  obtain ⟨h1, h2, h3⟩ := T_more hr hc
  have hvl : (vals r c).length = (T r c).length := by simp [vals]
  intro n
  induction n with
  | zero =>
    intro d hd
    refine ⟨max K0 700 + 1, fun k hk => ?_⟩
    obtain ⟨k, rfl⟩ : ∃ k', k = k' + 1 := ⟨k - 1, by omega⟩
    unfold spec_l04Values.l1
    rw [if_neg (by simp; omega), List.take_of_length_le (by omega), least_ev hr hc k (by omega), Option.bind_some, if_pos (by simp; omega), V_take hr hc, w64s (by omega)]
    exact hK0 k (by omega)
  | succ n ih =>
    intro d hd
    obtain ⟨K, hK⟩ := ih (d + 1) (by omega)
    refine ⟨max K 40 + 1, fun k hk => ?_⟩
    obtain ⟨k, rfl⟩ : ∃ k', k = k' + 1 := ⟨k - 1, by omega⟩
    have hdl : d < (T r c).length := by omega
    obtain ⟨⟨ha, hb⟩, hn⟩ := h2 _ (T_mem hdl)
    unfold spec_l04Values.l1
    have hlen : ((V r).take c).length = c := by rw [List.length_take, V_len hr]; omega
    have h24 : 2 ^ (c + 1) ≤ 2 ^ 24 := Nat.pow_le_pow_right (by decide) (by omega)
    rw [if_pos (by simp; omega), if_pos (by omega), ints_rd, sum_ev _ (by omega) (take_lt hr) _ k (by omega) (by omega), Option.bind_some, if_pos (by simp; omega), ← vals_at r c d hdl, ints_take _ _ (by omega), w64s (by omega)]
    exact hK k (by omega)
theorem sv_l0 {r N : Nat} (hr : r < 6) (hN : N ≤ 24) : ∀ n c, c + n = N → ∃ K, ∀ k, K ≤ k → spec_l04Values.l0 k (r : Int) (N : Int) (ints ((V r).take c)) (c : Int) = some (ints ((V r).take N)) := by
  intro n
  induction n with
  | zero =>
    intro c hc
    refine ⟨1, fun k hk => ?_⟩
    obtain ⟨k, rfl⟩ : ∃ k', k = k' + 1 := ⟨k - 1, by omega⟩
    unfold spec_l04Values.l0
    rw [if_neg (by omega), show c = N by omega]
  | succ n ih =>
    intro c hc
    obtain ⟨K0, hK0⟩ := ih (c + 1) (by omega)
    obtain ⟨K, hK⟩ := sv_l1 hr (show c < 24 by omega) _ K0 hK0 (T r c).length 0 (by omega)
    refine ⟨max K 800 + 1, fun k hk => ?_⟩
    obtain ⟨k, rfl⟩ : ∃ k', k = k' + 1 := ⟨k - 1, by omega⟩
    unfold spec_l04Values.l0
    rw [if_pos (by omega), turns_ev hr (show c < 24 by omega) k (by omega), Option.bind_some]
    have := hK k (by omega)
    simpa using this
theorem values_ev {r N : Nat} (hr : r < 6) (hN : N ≤ 24) : ∃ K, ∀ k, K ≤ k → spec_l04Values.f k (r : Int) (N : Int) = some (ints ((V r).take N)) := by
  obtain ⟨K, hK⟩ := sv_l0 hr hN N 0 (by omega)
  exact ⟨K, fun k hk => by have := hK k hk; simpa [spec_l04Values.f] using this⟩
theorem V_full {r : Nat} (hr : r < 6) : (V r).take 24 = V r := List.take_of_length_le (by rw [V_len hr]; decide)
theorem xor_eq {a b : Nat} (h : a ^^^ b = 0) : a = b := by
  have h1 : (a ^^^ b) ^^^ b = a := by rw [Nat.xor_assoc, Nat.xor_self, Nat.xor_zero]
  rw [h, Nat.zero_xor] at h1
  exact h1.symm
theorem win_l1 {r c row : Nat} (hr : r < 6) (hc : c < 24) (hrow : row < 2 ^ 24) (rest : List Nat) (K0 : Nat) (hK0 : ∀ k (acc : List Nat), K0 ≤ k → acc.length ≤ 300 * (c + 1) → spec_l04Winning.l0 k (r : Int) (row : Int) (ints (V r)) (ints acc) ((c + 1 : Nat) : Int) = some (ints (acc ++ rest))) :
    ∀ n d, d + n = (T r c).length → ∃ K, ∀ k (acc : List Nat), K ≤ k → acc.length ≤ 300 * c + d → spec_l04Winning.l1 k (r : Int) (row : Int) (ints (V r)) (ints acc) (c : Int) (ints (T r c)) (d : Int) = some (ints (acc ++ ((T r c).drop d).filter (fun m => decide (xs (V r) m = xs (V r) row)) ++ rest)) := by
  obtain ⟨_, h2, h3⟩ := T_more hr hc
  intro n
  induction n with
  | zero =>
    intro d hd
    refine ⟨K0 + 1, fun k acc hk ha => ?_⟩
    obtain ⟨k, rfl⟩ : ∃ k', k = k' + 1 := ⟨k - 1, by omega⟩
    unfold spec_l04Winning.l1
    rw [if_neg (by simp; omega), w64s (by omega), hK0 k acc (by omega) (by omega), List.drop_of_length_le (by omega)]
    simp
  | succ n ih =>
    intro d hd
    obtain ⟨K, hK⟩ := ih (d + 1) (by omega)
    refine ⟨max K 40 + 1, fun k acc hk ha => ?_⟩
    obtain ⟨k, rfl⟩ : ∃ k', k = k' + 1 := ⟨k - 1, by omega⟩
    have hdl : d < (T r c).length := by omega
    have hm := (h2 _ (T_mem hdl)).1
    have h24 : 2 ^ (c + 1) ≤ 2 ^ 24 := Nat.pow_le_pow_right (by decide) (by omega)
    have hx : row ^^^ (T r c).getD d 0 < 2 ^ 32 := Nat.xor_lt_two_pow (by omega) (by omega)
    unfold spec_l04Winning.l1
    rw [if_pos (by simp; omega), if_pos (by omega), ints_rd, xor_nat32 (by omega) (by omega), sum_ev _ (by rw [V_len hr]; decide) (V_lt hr) _ k hx (by omega), Option.bind_some, xs_xor, w64s (by omega)]
    have hdr : (T r c).drop d = (T r c).getD d 0 :: (T r c).drop (d + 1) := by rw [List.drop_eq_getElem_cons hdl]; simp [List.getD, hdl]
    rw [hdr]
    by_cases he : xs (V r) ((T r c).getD d 0) = xs (V r) row
    · rw [if_pos (by rw [he, Nat.xor_self]; rfl), if_pos (by simp; omega)]
      have := hK k (acc ++ [(T r c).getD d 0]) (by omega) (by simp; omega)
      rw [List.filter_cons_of_pos (by simpa using he), show ints acc ++ [(((T r c).getD d 0 : Nat) : Int)] = ints (acc ++ [(T r c).getD d 0]) by simp, this]
      simp
    · rw [if_neg (fun h => he (xor_eq (by omega : xs (V r) row ^^^ xs (V r) ((T r c).getD d 0) = 0)).symm), hK k acc (by omega) (by omega), List.filter_cons_of_neg (by simpa using he)]
theorem win_l0 {r row : Nat} (hr : r < 6) (hrow : row < 2 ^ 24) : ∀ n c, c + n = 24 → ∃ K, ∀ k (acc : List Nat), K ≤ k → acc.length ≤ 300 * c → spec_l04Winning.l0 k (r : Int) (row : Int) (ints (V r)) (ints acc) (c : Int) = some (ints (acc ++ (turnsFrom r row c n).filter (fun m => decide (xs (V r) m = xs (V r) row)))) := by
  intro n
  induction n with
  | zero =>
    intro c hc
    refine ⟨1, fun k acc hk _ => ?_⟩
    obtain ⟨k, rfl⟩ : ∃ k', k = k' + 1 := ⟨k - 1, by omega⟩
    unfold spec_l04Winning.l0
    rw [if_neg (by omega)]
    simp [turnsFrom]
  | succ n ih =>
    intro c hc
    obtain ⟨K0, hK0⟩ := ih (c + 1) (by omega)
    obtain ⟨K, hK⟩ := win_l1 hr (show c < 24 by omega) hrow _ K0 hK0 (T r c).length 0 (by omega)
    refine ⟨max K (max K0 800) + 1, fun k acc hk ha => ?_⟩
    obtain ⟨k, rfl⟩ : ∃ k', k = k' + 1 := ⟨k - 1, by omega⟩
    unfold spec_l04Winning.l0
    rw [if_pos (by omega), wraps_u64 (by omega), if_pos (by omega), bit_and (by omega) (by omega)]
    unfold turnsFrom
    rw [List.filter_append]
    by_cases hb : row >>> c % 2 = 1
    · rw [if_neg (by omega), turns_ev hr (show c < 24 by omega) k (by omega), Option.bind_some, if_pos hb]
      have := hK k acc (by omega) (by omega)
      rw [List.drop_zero, List.append_assoc] at this
      exact this
    · rw [if_pos (by omega), if_neg hb, w64s (by omega), hK0 k acc (by omega) (by omega)]
      simp
theorem winning_spec {r row : Nat} (hr : r < 6) (hrow : row < 2 ^ 24) : ∃ K, ∀ k, K ≤ k → spec_l04Winning.f k (r : Int) (row : Int) = some (ints (wins (V r) r row)) := by
  obtain ⟨K1, h1⟩ := values_ev (N := 24) hr (Nat.le_refl _)
  obtain ⟨K2, h2⟩ := win_l0 hr hrow 24 0 rfl
  refine ⟨max K1 K2, fun k hk => ?_⟩
  unfold spec_l04Winning.f
  have h3 := h1 k (by omega)
  rw [V_full hr] at h3
  rw [show ((24 : Nat) : Int) = 24 from rfl] at h3
  rw [h3, Option.bind_some]
  have := h2 k [] (by omega) (Nat.zero_le _)
  exact this
theorem code_ok {r row : Nat} (hr6 : r < 6) (hrow : row < 16777216) : impl_rowRule.f (r : Int) (row : Int) = some 0 ∧ spec_l04Row.f (r : Int) (row : Int) = some 0 := by
  refine ⟨?_, ?_⟩
  · simp only [impl_rowRule.f, impl_isRule.f, impl_within.f]
    rw [if_pos (by omega), Option.bind_some, Option.bind_some, if_pos (decide_eq_true (by omega)), if_pos (by omega)]
  · simp only [spec_l04Row.f, spec_l04Rule.f, spec_l00In.f]
    rw [if_pos (by omega), Option.bind_some, Option.bind_some, if_pos (decide_eq_true (by omega)), if_pos (by omega)]
theorem sameTurns_ev (l : List Int) (h : l.length ≤ 1048576) : ∃ K, ∀ k, K ≤ k → spec_SameTurns.f k l l = some true :=
  eq_refl_ev (fun _ _ _ => rfl) (fun _ _ _ _ => rfl) l (by omega)
theorem turnsAt_ok {r c : Nat} (hr : r < 6) (hc : c < 24) : impl_TurnsAt.f (r : Int) (c : Int) = some (ints (T r c), 0) := by
  simp only [impl_TurnsAt.f, impl_isRule.f, impl_within.f]
  rw [if_pos (by omega), Option.bind_some, Option.bind_some, if_pos (decide_eq_true (by omega)), if_pos (by omega), Option.bind_some, if_pos (decide_eq_true (by omega)), (T_spec hr hc).1, Option.bind_some]
theorem next_ev (l : List Int) (hw : ∀ x ∈ l, (Lit.int .u8 x).wf = true) (at_ seed : Int) (h0 : 0 ≤ at_) (h1 : at_ ≤ 1000) : ∃ v s, 0 ≤ v ∧ v ≤ 255 ∧ spec_l00Src_next.f l at_ seed = some (v, at_ + 1, s) := by
  have hm : maxLen = 9223372036854775807 := rfl
  have hw1 : wrap64 (at_ + 1) = at_ + 1 := w64i (by omega) (by omega)
  have hband : ∀ x : Int, 0 ≤ wrap64 (Go.bits .and .u64 ((IntKind.u64.wrap x) / 1099511627776) 255) ∧ wrap64 (Go.bits .and .u64 ((IntKind.u64.wrap x) / 1099511627776) 255) ≤ 255 := fun x => by
    have h2 : 0 ≤ IntKind.u64.wrap x ∧ IntKind.u64.wrap x < 18446744073709551616 := by simp [IntKind.wrap, IntKind.bits, IntKind.signed]; omega
    have h3 := bits_mask .u64 32 (by decide) (fun n g0 g1 => by simp [IntKind.wrap, IntKind.bits, IntKind.signed]; omega) 8 (by decide) (IntKind.u64.wrap x / 1099511627776) (by omega) (by omega)
    rw [show (2 : Int) ^ 8 - 1 = 255 by decide, show (2 : Int) ^ 8 = 256 by decide] at h3
    rw [h3, w64i (by omega) (by omega)]
    omega
  unfold spec_l00Src_next.f
  rw [hw1]
  by_cases hlt : at_ < (l.length : Int)
  · have hx : 0 ≤ rd l at_ ∧ rd l at_ ≤ 255 := by
      obtain ⟨i, rfl⟩ : ∃ i : Nat, at_ = i := ⟨at_.toNat, by omega⟩
      rw [rd_nat, List.getD_eq_getElem?_getD, List.getElem?_eq_getElem (by omega)]
      have := hw l[i] (List.getElem_mem _)
      simp [Lit.wf, IntKind.min, IntKind.max, IntKind.bits, IntKind.signed] at this
      simp; omega
    rw [if_pos hlt, if_pos h0, if_pos (by omega), w64i (by omega) (by omega)]
    exact ⟨_, _, hx.1, hx.2, rfl⟩
  · rw [if_neg hlt]
    by_cases h2 : at_ + 1 ≤ (l.length : Int)
    · rw [if_pos h2]; exact ⟨_, _, by decide, by decide, rfl⟩
    · rw [if_neg h2]
      exact ⟨_, _, (hband _).1, (hband _).2, rfl⟩
theorem pick_ev (l : List Int) (hw : ∀ x ∈ l, (Lit.int .u8 x).wf = true) : ∃ r : Nat, r < 6 ∧ spec_P6Pick.f l 6 = some (r : Int) := by
  obtain ⟨v, s, h0, h1, h⟩ := next_ev l hw 0 0 (by decide) (by decide)
  refine ⟨(Int.tmod v 6).toNat, ?_, ?_⟩
  · have := Int.tmod_eq_emod_of_nonneg (b := 6) h0; omega
  · have ht := Int.tmod_eq_emod_of_nonneg (b := 6) h0
    simp only [spec_P6Pick.f, spec_l00From.f, spec_l00Src_pick.f, Option.bind_some, h]
    rw [if_neg (by decide), if_neg (by decide), if_neg (by decide), Option.bind_some]
    congr 1; omega
theorem pick10_ev (l : List Int) (hw : ∀ x ∈ l, (Lit.int .u8 x).wf = true) : ∃ r : Nat, r < 10 ∧ spec_P6Pick.f l 10 = some (r : Int) := by
  obtain ⟨v, s, h0, h1, h⟩ := next_ev l hw 0 0 (by decide) (by decide)
  refine ⟨(Int.tmod v 10).toNat, ?_, ?_⟩
  · have := Int.tmod_eq_emod_of_nonneg (b := 10) h0; omega
  · have ht := Int.tmod_eq_emod_of_nonneg (b := 10) h0
    simp only [spec_P6Pick.f, spec_l00From.f, spec_l00Src_pick.f, Option.bind_some, h]
    rw [if_neg (by decide), if_neg (by decide), if_neg (by decide), Option.bind_some]
    congr 1; omega
theorem row_ev (l : List Int) (hw : ∀ x ∈ l, (Lit.int .u8 x).wf = true) : ∃ row : Nat, row < 1024 ∧ spec_P6Row.f l = some (row : Int) := by
  obtain ⟨v, s, h0, h1, h⟩ := next_ev l hw 0 0 (by decide) (by decide)
  obtain ⟨v2, s2, g0, g1, g⟩ := next_ev l hw (0 + 1) s (by decide) (by decide)
  have e1 : wrap64 (v * 256) = v * 256 := w64i (by omega) (by omega)
  have e2 : wrap64 (v * 256 + v2) = v * 256 + v2 := w64i (by omega) (by omega)
  have ht := Int.tmod_eq_emod_of_nonneg (a := v * 256 + v2) (b := 1024) (by omega)
  refine ⟨(Int.tmod (v * 256 + v2) 1024).toNat, by omega, ?_⟩
  simp only [spec_P6Row.f, spec_l00From.f, spec_l00Src_pick.f, Option.bind_some, h]
  rw [if_neg (by decide), if_pos (by decide)]
  simp only [g, Option.bind_some, e1, e2]
  rw [if_neg (by decide), Option.bind_some]
  congr 1; omega
end Go.Proofs.YtkgnjfoclhkgkaaDoor.Given
