/- What the walks of turns and rows compute, as statements on natural numbers. -/
import Derived.Test.YtkgnjfoclhkgkaaDoorProg
import Derived.Below
import Derived.Deep.Draws
import Derived.Deep.AppendLies
import Derived.Maps.AppendAt
import Derived.OwnWalk
import Derived.Laws.BytesArg
import Derived.Laws.MakeOwn
import Derived.Laws.OwnMore
import Derived.Deep.OwnRows
import Derived.Tactics
import Derived.Lib.ConvBytes
import Derived.Laws.Slices
import Derived.WalkKit
import Derived.KernelRfl
import Derived.RowKit3
import Derived.Deep.LoopGhost
import Derived.Deep.QuietTactic
import Derived.BigQuiet
import Derived.WideLaws
import Derived.Deep.DeepCutAuto
import Derived.Deep.CutBlock
import Derived.Deep.RegionHeld3
import Derived.Laws.Rows
import Derived.Lib.AppendStr
import Derived.ArgAppend
import Derived.Laws.IdiomCopy
import Derived.OrdersHeld
import Derived.Laws.BitsLemmas
import Derived.RowKit
import Derived.Lib.Hide
import Derived.WalkSpells
import Derived.Test.YtkgnjfoclhkgkaaDoorWWords
import Derived.Test.YtkgnjfoclhkgkaaDoorWLast
import Derived.Test.YtkgnjfoclhkgkaaDoorWTab
import Derived.Test.YtkgnjfoclhkgkaaDoorWQPut
import Derived.Test.YtkgnjfoclhkgkaaDoorWApart
import Derived.Test.YtkgnjfoclhkgkaaDoorWArr
import Derived.Test.YtkgnjfoclhkgkaaDoorWZeros
import Derived.Test.YtkgnjfoclhkgkaaDoorWFoot
import Derived.Test.YtkgnjfoclhkgkaaDoorWKept
import Derived.Test.YtkgnjfoclhkgkaaDoorWShare
import Derived.Test.YtkgnjfoclhkgkaaDoorWN
import Derived.Test.YtkgnjfoclhkgkaaDoorWNEv
import Derived.Test.YtkgnjfoclhkgkaaDoorWMore
import Derived.Test.YtkgnjfoclhkgkaaDoorN1
import Derived.Test.YtkgnjfoclhkgkaaDoorVN
import Derived.Lib.TrailingZeros
namespace Go.Proofs.YtkgnjfoclhkgkaaDoor.Given
open Go.RowKit Go.Proofs.YtkgnjfoclhkgkaaDoorW.PrintWords Go.Proofs.YtkgnjfoclhkgkaaDoorW.PrintLast Go.Proofs.YtkgnjfoclhkgkaaDoorW.PrintMore Go.Proofs.YtkgnjfoclhkgkaaDoor.NimF Go.Proofs.YtkgnjfoclhkgkaaDoor.NimGo
set_option linter.unusedVariables false
set_option linter.unusedSimpArgs false
open Go.Proofs.YtkgnjfoclhkgkaaDoor.RRO
open Go.Proofs.YtkgnjfoclhkgkaaDoor.RAT
def xs : List Nat → Nat → Nat
  | [], _ => 0
  | v :: r, m => (if m % 2 = 1 then v else 0) ^^^ xs r (m / 2)
theorem xs_zero : ∀ (l : List Nat), xs l 0 = 0
  | [] => rfl
  | v :: r => by simp [xs, xs_zero r]
theorem xor_swap (a b c d : Nat) : (a ^^^ b) ^^^ (c ^^^ d) = (a ^^^ c) ^^^ (b ^^^ d) := by
  rw [Nat.xor_assoc, Nat.xor_assoc, ← Nat.xor_assoc b, Nat.xor_comm b c, Nat.xor_assoc c]
theorem xs_xor : ∀ (l : List Nat) (a b : Nat), xs l (a ^^^ b) = xs l a ^^^ xs l b
  | [], _, _ => by simp [xs]
  | v :: r, a, b => by
    simp only [xs]
    rw [Nat.xor_div_two, xs_xor r, xor_swap]
    congr 1
    have h := Nat.xor_mod_two_eq_one (a := a) (b := b)
    by_cases h1 : a % 2 = 1 <;> by_cases h2 : b % 2 = 1 <;> simp [h1, h2, h]
theorem xor_nat32 {a b : Nat} (ha : a < 2 ^ 32) (hb : b < 2 ^ 32) : Go.bits .xor .u32 (a : Int) b = ((a ^^^ b : Nat) : Int) := bits_xor_nat .u32 32 (by decide) wraps_u32 a b ha hb
theorem wraps_u64 {n : Nat} (h : n < 4611686018427387904) : IntKind.u64.wrap (n : Int) = n := by simp [IntKind.wrap, IntKind.bits, IntKind.signed]; omega
theorem and_two (a b : Nat) : a &&& b = 2 * (a / 2 &&& b / 2) + (if a % 2 = 1 ∧ b % 2 = 1 then 1 else 0) := by
  have h1 := Nat.and_div_two (a := a) (b := b)
  have h2 := Nat.and_mod_two_eq_one (a := a) (b := b)
  split
  · rename_i h; have := h2.2 h; omega
  · rename_i h; have : (a &&& b) % 2 ≠ 1 := fun e => h (h2.1 e); omega
theorem clear_odd {m : Nat} (h : m % 2 = 1) : m &&& (m - 1) = m - 1 := by
  rw [and_two, show (m - 1) / 2 = m / 2 by omega, Nat.and_self, if_neg (by omega)]; omega
theorem clear_even {m : Nat} (h : m % 2 = 0) (h0 : m ≠ 0) : m &&& (m - 1) = 2 * (m / 2 &&& (m / 2 - 1)) := by
  rw [and_two, show (m - 1) / 2 = m / 2 - 1 by omega, if_neg (by omega), Nat.add_zero]
def pc : Nat → Nat → Nat
  | 0, _ => 0
  | n + 1, m => m % 2 + pc n (m / 2)
theorem pc_le : ∀ n m, pc n m ≤ n
  | 0, _ => Nat.le_refl _
  | n + 1, m => by have := pc_le n (m / 2); unfold pc; omega
theorem xs_clear : ∀ (n : Nat) (l : List Nat) (m : Nat), m ≠ 0 → m < 2 ^ n → xs l m = xs l (m &&& (m - 1)) ^^^ l.getD (Lib.ctzFrom n m) 0 ∧ pc n (m &&& (m - 1)) + 1 = pc n m
  | 0, l, m, h0, h => by omega
  | n + 1, l, m, h0, h => by
    rcases Nat.mod_two_eq_zero_or_one m with he | ho
    · obtain ⟨h1, h2⟩ := xs_clear n l.tail (m / 2) (by omega) (by rw [Nat.pow_succ] at h; omega)
      rw [clear_even he h0]
      refine ⟨?_, ?_⟩
      · rw [Lib.ctzFrom, if_neg (by omega)]
        cases l with
        | nil => simp [xs]
        | cons v r =>
          simp only [xs, List.tail_cons] at h1 ⊢
          rw [if_neg (by omega), if_neg (by omega), show 2 * (m / 2 &&& (m / 2 - 1)) / 2 = (m / 2 &&& (m / 2 - 1)) by omega, h1, Nat.add_comm 1, List.getD_cons_succ, Nat.zero_xor, Nat.zero_xor]
      · unfold pc
        rw [show 2 * (m / 2 &&& (m / 2 - 1)) / 2 = (m / 2 &&& (m / 2 - 1)) by omega]
        omega
    · rw [clear_odd ho]
      refine ⟨?_, ?_⟩
      · rw [Lib.ctzFrom, if_pos ho]
        cases l with
        | nil => simp [xs]
        | cons v r =>
          simp only [xs]
          rw [if_pos ho, if_neg (by omega), show (m - 1) / 2 = m / 2 by omega, List.getD_cons_zero, Nat.zero_xor, Nat.xor_comm]
      · unfold pc
        rw [show (m - 1) / 2 = m / 2 by omega]
        omega
abbrev ints (l : List Nat) : List Int := l.map fun (n : Nat) => (n : Int)
theorem ints_rd (l : List Nat) (i : Nat) : rd (ints l) (i : Int) = ((l.getD i 0 : Nat) : Int) := by
  rw [rd_nat, List.getD_eq_getElem?_getD, List.getElem?_map, List.getD_eq_getElem?_getD]
  cases l[i]? <;> rfl
set_option maxHeartbeats 1000000 in
theorem rowOf_l0 (l : List Nat) (hl : l.length ≤ 24) (hv : ∀ v ∈ l, v < 65536) : ∀ (k m s : Nat), m < 2 ^ l.length → s < 65536 → pc 32 m < k → impl_rowOf.l0 k (ints l) (m : Int) (s : Int) = some ((s ^^^ xs l m : Nat) : Int) := by
  intro k
  induction k with
  | zero => intro m s _ _ h; exact absurd h (Nat.not_lt_zero _)
  | succ k ih =>
    intro m s hm hs h
    unfold impl_rowOf.l0
    have h24 : 2 ^ l.length ≤ 2 ^ 24 := Nat.pow_le_pow_right (by decide) hl
    by_cases h0 : m = 0
    · subst h0
      rw [if_pos (show ((0 : Nat) : Int) = 0 from rfl), xs_zero, Nat.xor_zero]
    · rw [if_neg (by omega)]
      have hm32 : m < 2 ^ 32 := by omega
      have htz : bits_TrailingZeros32.f (m : Int) = some ((Lib.ctzFrom 32 m : Nat) : Int) := by
        unfold bits_TrailingZeros32.f
        rw [if_pos (by omega), if_neg (by omega), Int.toNat_natCast]
        simp [Lib.ctz, h0]
      obtain ⟨q, hq, _⟩ := Lib.ctzFrom_spec 32 m (by omega) hm32
      obtain ⟨h1, h2⟩ := xs_clear 32 l m h0 hm32
      have ht : Lib.ctzFrom 32 m < l.length := by
        rcases Nat.lt_or_ge (Lib.ctzFrom 32 m) l.length with h | h
        · exact h
        · have h3 : 2 ^ l.length ≤ 2 ^ Lib.ctzFrom 32 m := Nat.pow_le_pow_right (by decide) h
          have h4 : 2 ^ Lib.ctzFrom 32 m ≤ m := by
            have h5 : 2 ^ Lib.ctzFrom 32 m * 1 ≤ 2 ^ Lib.ctzFrom 32 m * (2 * q + 1) := Nat.mul_le_mul_left _ (by omega)
            omega
          omega
      rw [htz, Option.bind_some, if_pos (by omega), if_pos (by simp; omega)]
      rw [show ((m : Int) - 1) % 4294967296 = ((m - 1 : Nat) : Int) by omega, and_nat32 hm32 (by omega), ints_rd]
      have hvt : l.getD (Lib.ctzFrom 32 m) 0 < 65536 := by
        rw [List.getD_eq_getElem?_getD, List.getElem?_eq_getElem ht]
        exact hv _ (List.getElem_mem _)
      rw [xor16 hs hvt]
      have hle : m &&& (m - 1) ≤ m := Nat.and_le_left
      rw [ih (m &&& (m - 1)) _ (Nat.lt_of_le_of_lt hle hm) (Nat.xor_lt_two_pow (n := 16) hs hvt) (by omega)]
      rw [h1, Nat.xor_assoc, Nat.xor_comm (l.getD _ _)]
theorem rowOf_ev (l : List Nat) (hl : l.length ≤ 24) (hv : ∀ v ∈ l, v < 65536) (k m : Nat) (hk : 33 ≤ k) (hm : m < 2 ^ l.length) : impl_rowOf.f k (ints l) (m : Int) = some ((xs l m : Nat) : Int) := by
  unfold impl_rowOf.f
  have := rowOf_l0 l hl hv k m 0 hm (by decide) (by have := pc_le 32 m; omega)
  rw [Nat.zero_xor] at this
  exact this
def T (r c : Nat) : List Nat := match r with
  | 0 => [2 ^ c]
  | 1 => 2 ^ c :: (List.range c).map fun a => 2 ^ c + 2 ^ a
  | 2 => (List.range c).map fun a => 2 ^ c + 2 ^ a
  | 3 => 2 ^ c :: (List.range c).flatMap fun a => (2 ^ c + 2 ^ a) :: (List.range a).map fun b => 2 ^ c + 2 ^ a + 2 ^ b
  | 4 => (List.range (c + 1)).map fun a => 2 ^ (c + 1) - 2 ^ (c - a)
  | _ => (List.range c).flatMap fun a => (List.range a).map fun b => 2 ^ c + 2 ^ a + 2 ^ b
def tOk (r c : Nat) : Bool := decide (impl_turnsAt.f (r : Int) (c : Int) = some (ints (T r c))) &&
  ((T r c).all (fun v => Nat.ble (2 ^ c) v && Nat.blt v (2 ^ (c + 1)) && decide (Go.bits .andNot .u32 (v : Int) (shl .u32 1 (c : Int)) = ((v - 2 ^ c : Nat) : Int))) && Nat.ble (T r c).length 300)
set_option maxHeartbeats 40000000 in
set_option maxRecDepth 1000000 in
theorem t3_0 : tOk 3 0 = true := by decide +kernel
set_option maxHeartbeats 40000000 in
set_option maxRecDepth 1000000 in
theorem t3_1 : tOk 3 1 = true := by decide +kernel
set_option maxHeartbeats 40000000 in
set_option maxRecDepth 1000000 in
theorem t3_2 : tOk 3 2 = true := by decide +kernel
set_option maxHeartbeats 40000000 in
set_option maxRecDepth 1000000 in
theorem t3_3 : tOk 3 3 = true := by decide +kernel
set_option maxHeartbeats 40000000 in
set_option maxRecDepth 1000000 in
theorem t3_4 : tOk 3 4 = true := by decide +kernel
set_option maxHeartbeats 40000000 in
set_option maxRecDepth 1000000 in
theorem t3_5 : tOk 3 5 = true := by decide +kernel
set_option maxHeartbeats 40000000 in
set_option maxRecDepth 1000000 in
theorem t3_6 : tOk 3 6 = true := by decide +kernel
set_option maxHeartbeats 40000000 in
set_option maxRecDepth 1000000 in
theorem t3_7 : tOk 3 7 = true := by decide +kernel
set_option maxHeartbeats 40000000 in
set_option maxRecDepth 1000000 in
theorem t3_8 : tOk 3 8 = true := by decide +kernel
set_option maxHeartbeats 40000000 in
set_option maxRecDepth 1000000 in
theorem t3_9 : tOk 3 9 = true := by decide +kernel
set_option maxHeartbeats 40000000 in
set_option maxRecDepth 1000000 in
theorem t3_10 : tOk 3 10 = true := by decide +kernel
set_option maxHeartbeats 40000000 in
set_option maxRecDepth 1000000 in
theorem t3_11 : tOk 3 11 = true := by decide +kernel
set_option maxHeartbeats 40000000 in
set_option maxRecDepth 1000000 in
theorem t3_12 : tOk 3 12 = true := by decide +kernel
set_option maxHeartbeats 40000000 in
set_option maxRecDepth 1000000 in
theorem t3_13 : tOk 3 13 = true := by decide +kernel
set_option maxHeartbeats 40000000 in
set_option maxRecDepth 1000000 in
theorem t3_14 : tOk 3 14 = true := by decide +kernel
set_option maxHeartbeats 40000000 in
set_option maxRecDepth 1000000 in
theorem t3_15 : tOk 3 15 = true := by decide +kernel
set_option maxHeartbeats 40000000 in
set_option maxRecDepth 1000000 in
theorem t3_16 : tOk 3 16 = true := by decide +kernel
set_option maxHeartbeats 40000000 in
set_option maxRecDepth 1000000 in
theorem t3_17 : tOk 3 17 = true := by decide +kernel
set_option maxHeartbeats 40000000 in
set_option maxRecDepth 1000000 in
theorem t3_18 : tOk 3 18 = true := by decide +kernel
set_option maxHeartbeats 40000000 in
set_option maxRecDepth 1000000 in
theorem t3_19 : tOk 3 19 = true := by decide +kernel
set_option maxHeartbeats 40000000 in
set_option maxRecDepth 1000000 in
theorem t3_20 : tOk 3 20 = true := by decide +kernel
set_option maxHeartbeats 40000000 in
set_option maxRecDepth 1000000 in
theorem t3_21 : tOk 3 21 = true := by decide +kernel
set_option maxHeartbeats 40000000 in
set_option maxRecDepth 1000000 in
theorem t3_22 : tOk 3 22 = true := by decide +kernel
set_option maxHeartbeats 40000000 in
set_option maxRecDepth 1000000 in
theorem t3_23 : tOk 3 23 = true := by decide +kernel
theorem tc3 : ∀ c, c < 24 → tOk 3 c = true
  | 0, _ => t3_0
  | 1, _ => t3_1
  | 2, _ => t3_2
  | 3, _ => t3_3
  | 4, _ => t3_4
  | 5, _ => t3_5
  | 6, _ => t3_6
  | 7, _ => t3_7
  | 8, _ => t3_8
  | 9, _ => t3_9
  | 10, _ => t3_10
  | 11, _ => t3_11
  | 12, _ => t3_12
  | 13, _ => t3_13
  | 14, _ => t3_14
  | 15, _ => t3_15
  | 16, _ => t3_16
  | 17, _ => t3_17
  | 18, _ => t3_18
  | 19, _ => t3_19
  | 20, _ => t3_20
  | 21, _ => t3_21
  | 22, _ => t3_22
  | 23, _ => t3_23
  | n + 24, h => by omega
set_option maxHeartbeats 40000000 in
set_option maxRecDepth 1000000 in
theorem t5_0 : tOk 5 0 = true := by decide +kernel
set_option maxHeartbeats 40000000 in
set_option maxRecDepth 1000000 in
theorem t5_1 : tOk 5 1 = true := by decide +kernel
set_option maxHeartbeats 40000000 in
set_option maxRecDepth 1000000 in
theorem t5_2 : tOk 5 2 = true := by decide +kernel
set_option maxHeartbeats 40000000 in
set_option maxRecDepth 1000000 in
theorem t5_3 : tOk 5 3 = true := by decide +kernel
set_option maxHeartbeats 40000000 in
set_option maxRecDepth 1000000 in
theorem t5_4 : tOk 5 4 = true := by decide +kernel
set_option maxHeartbeats 40000000 in
set_option maxRecDepth 1000000 in
theorem t5_5 : tOk 5 5 = true := by decide +kernel
set_option maxHeartbeats 40000000 in
set_option maxRecDepth 1000000 in
theorem t5_6 : tOk 5 6 = true := by decide +kernel
set_option maxHeartbeats 40000000 in
set_option maxRecDepth 1000000 in
theorem t5_7 : tOk 5 7 = true := by decide +kernel
set_option maxHeartbeats 40000000 in
set_option maxRecDepth 1000000 in
theorem t5_8 : tOk 5 8 = true := by decide +kernel
set_option maxHeartbeats 40000000 in
set_option maxRecDepth 1000000 in
theorem t5_9 : tOk 5 9 = true := by decide +kernel
set_option maxHeartbeats 40000000 in
set_option maxRecDepth 1000000 in
theorem t5_10 : tOk 5 10 = true := by decide +kernel
set_option maxHeartbeats 40000000 in
set_option maxRecDepth 1000000 in
theorem t5_11 : tOk 5 11 = true := by decide +kernel
set_option maxHeartbeats 40000000 in
set_option maxRecDepth 1000000 in
theorem t5_12 : tOk 5 12 = true := by decide +kernel
set_option maxHeartbeats 40000000 in
set_option maxRecDepth 1000000 in
theorem t5_13 : tOk 5 13 = true := by decide +kernel
set_option maxHeartbeats 40000000 in
set_option maxRecDepth 1000000 in
theorem t5_14 : tOk 5 14 = true := by decide +kernel
set_option maxHeartbeats 40000000 in
set_option maxRecDepth 1000000 in
theorem t5_15 : tOk 5 15 = true := by decide +kernel
set_option maxHeartbeats 40000000 in
set_option maxRecDepth 1000000 in
theorem t5_16 : tOk 5 16 = true := by decide +kernel
set_option maxHeartbeats 40000000 in
set_option maxRecDepth 1000000 in
theorem t5_17 : tOk 5 17 = true := by decide +kernel
set_option maxHeartbeats 40000000 in
set_option maxRecDepth 1000000 in
theorem t5_18 : tOk 5 18 = true := by decide +kernel
set_option maxHeartbeats 40000000 in
set_option maxRecDepth 1000000 in
theorem t5_19 : tOk 5 19 = true := by decide +kernel
set_option maxHeartbeats 40000000 in
set_option maxRecDepth 1000000 in
theorem t5_20 : tOk 5 20 = true := by decide +kernel
set_option maxHeartbeats 40000000 in
set_option maxRecDepth 1000000 in
theorem t5_21 : tOk 5 21 = true := by decide +kernel
set_option maxHeartbeats 40000000 in
set_option maxRecDepth 1000000 in
theorem t5_22 : tOk 5 22 = true := by decide +kernel
set_option maxHeartbeats 40000000 in
set_option maxRecDepth 1000000 in
theorem t5_23 : tOk 5 23 = true := by decide +kernel
theorem tc5 : ∀ c, c < 24 → tOk 5 c = true
  | 0, _ => t5_0
  | 1, _ => t5_1
  | 2, _ => t5_2
  | 3, _ => t5_3
  | 4, _ => t5_4
  | 5, _ => t5_5
  | 6, _ => t5_6
  | 7, _ => t5_7
  | 8, _ => t5_8
  | 9, _ => t5_9
  | 10, _ => t5_10
  | 11, _ => t5_11
  | 12, _ => t5_12
  | 13, _ => t5_13
  | 14, _ => t5_14
  | 15, _ => t5_15
  | 16, _ => t5_16
  | 17, _ => t5_17
  | 18, _ => t5_18
  | 19, _ => t5_19
  | 20, _ => t5_20
  | 21, _ => t5_21
  | 22, _ => t5_22
  | 23, _ => t5_23
  | n + 24, h => by omega
set_option maxHeartbeats 40000000 in
set_option maxRecDepth 1000000 in
theorem tAll : ∀ r, r < 6 → ((List.range 24).all fun c => tOk r c) = true
  | 0, _ => by decide +kernel
  | 1, _ => by decide +kernel
  | 2, _ => by decide +kernel
  | 3, _ => List.all_eq_true.2 (fun c hc => tc3 c (List.mem_range.1 hc))
  | 4, _ => by decide +kernel
  | 5, _ => List.all_eq_true.2 (fun c hc => tc5 c (List.mem_range.1 hc))
  | n + 6, h => by omega
theorem tAt {r c : Nat} (hr : r < 6) (hc : c < 24) : tOk r c = true := List.all_eq_true.1 (tAll r hr) c (List.mem_range.2 hc)
theorem T_more {r c : Nat} (hr : r < 6) (hc : c < 24) : impl_turnsAt.f (r : Int) (c : Int) = some (ints (T r c)) ∧ (∀ m ∈ T r c, (2 ^ c ≤ m ∧ m < 2 ^ (c + 1)) ∧ Go.bits .andNot .u32 (m : Int) (shl .u32 1 (c : Int)) = ((m - 2 ^ c : Nat) : Int)) ∧ (T r c).length ≤ 300 := by
  have h := tAt hr hc
  unfold tOk at h
  simpa only [Bool.and_eq_true, List.all_eq_true, decide_eq_true_eq, Nat.ble_eq, Nat.blt_eq] using h
theorem T_spec {r c : Nat} (hr : r < 6) (hc : c < 24) : impl_turnsAt.f (r : Int) (c : Int) = some (ints (T r c)) ∧ (∀ m ∈ T r c, 2 ^ c ≤ m ∧ m < 2 ^ (c + 1)) ∧ (T r c).length ≤ 300 :=
  ⟨(T_more hr hc).1, fun m hm => ((T_more hr hc).2.1 m hm).1, (T_more hr hc).2.2⟩
theorem xs_mod : ∀ (l : List Nat) (m : Nat), xs l (m % 2 ^ l.length) = xs l m
  | [], _ => by simp [xs]
  | v :: r, m => by
    simp only [xs, List.length_cons]
    have h1 : m % 2 ^ (r.length + 1) % 2 = m % 2 := by rw [Nat.pow_succ, Nat.mul_comm, Nat.mod_mul_right_mod]
    have h2 : m % 2 ^ (r.length + 1) / 2 = m / 2 % 2 ^ r.length := by rw [Nat.pow_succ, Nat.mul_comm, Nat.mod_mul_right_div_self]
    simp only [h1, h2, xs_mod r]
def VT : List (List Nat) := [[1, 1, 1, 1, 1, 1, 1, 1, 1, 1, 1, 1, 1, 1, 1, 1, 1, 1, 1, 1, 1, 1, 1, 1],
  [1, 2, 3, 4, 5, 6, 7, 8, 9, 10, 11, 12, 13, 14, 15, 16, 17, 18, 19, 20, 21, 22, 23, 24],
  [0, 1, 2, 3, 4, 5, 6, 7, 8, 9, 10, 11, 12, 13, 14, 15, 16, 17, 18, 19, 20, 21, 22, 23],
  [1, 2, 4, 7, 8, 11, 13, 14, 16, 19, 21, 22, 25, 26, 28, 31, 32, 35, 37, 38, 41, 42, 44, 47],
  [1, 2, 1, 4, 1, 2, 1, 8, 1, 2, 1, 4, 1, 2, 1, 16, 1, 2, 1, 4, 1, 2, 1, 8],
  [0, 0, 1, 2, 4, 7, 8, 11, 13, 14, 16, 19, 21, 22, 25, 26, 28, 31, 32, 35, 37, 38, 41, 42]]
def V (r : Nat) : List Nat := VT.getD r []
theorem V_all : ∀ r, r < 6 → (V r).length = 24 ∧ ∀ v ∈ V r, v < 65536 := by decide
theorem V_len {r : Nat} (hr : r < 6) : (V r).length = 24 := (V_all r hr).1
theorem V_lt {r : Nat} (hr : r < 6) : ∀ v ∈ V r, v < 65536 := (V_all r hr).2
def vals (r c : Nat) : List Nat := (T r c).map fun m => xs ((V r).take c) m
def turnsFrom (r row : Nat) : Nat → Nat → List Nat
  | _, 0 => []
  | c, n + 1 => (if row >>> c % 2 = 1 then T r c else []) ++ turnsFrom r row (c + 1) n
theorem turnsFrom_len (r row : Nat) (hr : r < 6) : ∀ (n c : Nat), c + n ≤ 24 → (turnsFrom r row c n).length ≤ 300 * n
  | 0, _, _ => by simp [turnsFrom]
  | n + 1, c, h => by
    have h1 := turnsFrom_len r row hr n (c + 1) (by omega)
    have h2 := (T_spec hr (show c < 24 by omega)).2.2
    unfold turnsFrom
    rw [List.length_append]
    split
    · omega
    · simp; omega
theorem turnsFrom_lt (r row : Nat) (hr : r < 6) : ∀ (n c : Nat), c + n ≤ 24 → ∀ m ∈ turnsFrom r row c n, m < 2 ^ 24
  | 0, _, _ => by simp [turnsFrom]
  | n + 1, c, h => by
    intro m hm
    unfold turnsFrom at hm
    rcases List.mem_append.1 hm with hm | hm
    · split at hm
      · have h1 := ((T_spec hr (show c < 24 by omega)).2.1 m hm).2
        have h2 : 2 ^ (c + 1) ≤ 2 ^ 24 := Nat.pow_le_pow_right (by decide) (by omega)
        omega
      · simp at hm
    · exact turnsFrom_lt r row hr n (c + 1) (by omega) m hm
theorem bit_and {row c : Nat} (hrow : row < 2 ^ 32) (hc : c < 24) : Go.bits .and .u32 (shr .u32 (row : Int) (c : Int)) 1 = ((row >>> c % 2 : Nat) : Int) := by
  rw [shr_nat .u32 row c (by simp [IntKind.bits]; omega)]
  have h := and_nat32 (a := row >>> c) (b := 1) (by rw [Nat.shiftRight_eq_div_pow]; exact Nat.lt_of_le_of_lt (Nat.div_le_self _ _) hrow) (by decide)
  rw [show ((1 : Nat) : Int) = 1 from rfl] at h
  rw [h, Nat.and_one_is_mod]
theorem allTurns_l0 (r row : Nat) (hr : r < 6) (hrow : row < 2 ^ 32) : ∀ (n c k : Nat) (acc : List Nat), c + n = 24 → n < k → acc.length ≤ 300 * c → impl_allTurns.l0 k (r : Int) (row : Int) (ints acc) (c : Int) = some (ints (acc ++ turnsFrom r row c n))
  | _, _, 0, _, _, h, _ => by omega
  | 0, c, k + 1, acc, h, _, _ => by
    unfold impl_allTurns.l0
    rw [if_neg (by omega)]
    simp [turnsFrom]
  | n + 1, c, k + 1, acc, h, hk, ha => by
    unfold impl_allTurns.l0
    obtain ⟨h1, _, h3⟩ := T_spec hr (show c < 24 by omega)
    rw [if_pos (by omega), if_pos (by omega), bit_and hrow (by omega), w64s (by omega)]
    unfold turnsFrom
    by_cases hb : row >>> c % 2 = 1
    · rw [if_pos (by omega), h1, Option.bind_some, if_pos (by simp; omega), if_pos hb]
      have := allTurns_l0 r row hr hrow n (c + 1) k (acc ++ T r c) (by omega) (by omega) (by rw [List.length_append]; omega)
      rw [ints, List.map_append] at this
      rw [this, List.append_assoc]
    · rw [if_neg (by omega), if_neg hb]
      have := allTurns_l0 r row hr hrow n (c + 1) k acc (by omega) (by omega) (by omega)
      rw [this, List.nil_append]
theorem allTurns_ev (r row k : Nat) (hr : r < 6) (hrow : row < 2 ^ 32) (hk : 25 ≤ k) : impl_allTurns.f k (r : Int) (row : Int) = some (ints (turnsFrom r row 0 24)) := by
  unfold impl_allTurns.f
  have := allTurns_l0 r row hr hrow 24 0 k [] rfl (by omega) (by simp)
  rw [List.nil_append] at this
  exact this
def wins (vs : List Nat) (r row : Nat) : List Nat := (turnsFrom r row 0 24).filter fun m => decide (xs vs m = xs vs row)
theorem filter_ints (p : Int → Bool) (q : Nat → Bool) : ∀ (l : List Nat), (∀ m ∈ l, p (m : Int) = q m) → (ints l).filter p = ints (l.filter q)
  | [], _ => rfl
  | a :: l, h => by
    have ih := filter_ints p q l (fun m hm => h m (List.mem_cons_of_mem _ hm))
    have h1 := h a (List.mem_cons_self ..)
    simp only [ints, List.map_cons, List.filter_cons, h1]
    by_cases hq : q a = true
    · rw [if_pos hq, if_pos hq, List.map_cons]; exact congrArg _ ih
    · rw [if_neg hq, if_neg hq]; exact ih
theorem winning_ev (vs : List Nat) (hl : vs.length = 24) (hv : ∀ v ∈ vs, v < 65536) (r row : Nat) (hr : r < 6) (hrow : row < 2 ^ 24) : impl_winning.f (r : Int) (row : Int) (ints vs) = some (ints (wins vs r row)) := by
  unfold impl_winning.f
  have h0 : ∀ m : Nat, m < 2 ^ 24 → impl_rowOf.f 40 (ints vs) (m : Int) = some ((xs vs m : Nat) : Int) := fun m hm => rowOf_ev vs (by omega) hv 40 m (by decide) (by rw [hl]; exact hm)
  have hlen := turnsFrom_len r row hr 24 0 (by decide)
  have hlt := turnsFrom_lt r row hr 24 0 (by decide)
  rw [h0 row hrow, Option.bind_some, allTurns_ev r row 40 hr (by omega) (by decide), Option.bind_some, if_pos ?_]
  · congr 1
    unfold wins
    refine filter_ints _ _ _ (fun m hm => ?_)
    rw [h0 m (hlt m hm)]
    simp only [Option.getD_some, bne]
    rw [Bool.not_not]
    by_cases e : xs vs m = xs vs row
    · rw [e]; simp
    · rw [decide_eq_false e]; exact beq_false_of_ne (by omega)
  · refine ⟨by simp; omega, List.all_eq_true.2 (fun x hx => ?_)⟩
    obtain ⟨m, hm, rfl⟩ := List.mem_map.1 hx
    show (impl_rowOf.f 40 (ints vs) (m : Int)).isSome = true
    rw [h0 m (hlt m hm)]; rfl
theorem lift {α : Type} {f : Nat → Option α} (h : ∀ k, LeO (f k) (f (k + 1))) {K : Nat} {v : α} (hK : f K = some v) : ∀ k, K ≤ k → f k = some v := by
  intro k hk
  induction hk with
  | refl => exact hK
  | step _ ih => exact h _ _ ih
end Go.Proofs.YtkgnjfoclhkgkaaDoor.Given
