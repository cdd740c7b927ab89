/- The game of coins: what wins, as statements on natural numbers. -/
import Derived.Test.YtkgnjfoclhkgkaaDoorProg
import Derived.Below
import Derived.Deep.Draws
import Derived.Deep.AppendLies
import Derived.Maps.AppendAt
import Derived.OwnWalk
import Derived.Laws.BytesArg
import Derived.Laws.MakeOwn
import Derived.Laws.OwnMore
import Derived.Deep.OwnRows
import Derived.Tactics
import Derived.Lib.ConvBytes
import Derived.Laws.Slices
import Derived.WalkKit
import Derived.KernelRfl
import Derived.RowKit3
import Derived.Deep.LoopGhost
import Derived.Deep.QuietTactic
import Derived.BigQuiet
import Derived.WideLaws
import Derived.Deep.DeepCutAuto
import Derived.Deep.CutBlock
import Derived.Deep.RegionHeld3
import Derived.Laws.Rows
import Derived.Lib.AppendStr
import Derived.ArgAppend
import Derived.Laws.IdiomCopy
import Derived.OrdersHeld
import Derived.Laws.BitsLemmas
import Derived.RowKit
import Derived.Lib.Hide
import Derived.WalkSpells
import Derived.Test.YtkgnjfoclhkgkaaDoorWWords
import Derived.Test.YtkgnjfoclhkgkaaDoorWLast
import Derived.Test.YtkgnjfoclhkgkaaDoorWTab
import Derived.Test.YtkgnjfoclhkgkaaDoorWQPut
import Derived.Test.YtkgnjfoclhkgkaaDoorWApart
import Derived.Test.YtkgnjfoclhkgkaaDoorWArr
import Derived.Test.YtkgnjfoclhkgkaaDoorWZeros
import Derived.Test.YtkgnjfoclhkgkaaDoorWFoot
import Derived.Test.YtkgnjfoclhkgkaaDoorWKept
import Derived.Test.YtkgnjfoclhkgkaaDoorWShare
import Derived.Test.YtkgnjfoclhkgkaaDoorWN
import Derived.Test.YtkgnjfoclhkgkaaDoorWNEv
import Derived.Test.YtkgnjfoclhkgkaaDoorWMore
import Derived.Test.YtkgnjfoclhkgkaaDoorN1
import Derived.Test.YtkgnjfoclhkgkaaDoorPV
namespace Go.Proofs.YtkgnjfoclhkgkaaDoor.Given
open Go.RowKit Go.Proofs.YtkgnjfoclhkgkaaDoorW.PrintWords Go.Proofs.YtkgnjfoclhkgkaaDoorW.PrintLast Go.Proofs.YtkgnjfoclhkgkaaDoorW.PrintMore Go.Proofs.YtkgnjfoclhkgkaaDoor.NimF Go.Proofs.YtkgnjfoclhkgkaaDoor.NimGo
set_option linter.unusedVariables false
set_option linter.unusedSimpArgs false
open Go.Proofs.YtkgnjfoclhkgkaaDoor.RRO
open Go.Proofs.YtkgnjfoclhkgkaaDoor.RMT
open Go.Proofs.YtkgnjfoclhkgkaaDoor.RLN
open Go.Proofs.YtkgnjfoclhkgkaaDoor.RAT
def MT : List (List Nat) := [[2, 2, 2, 2, 2, 2, 2, 2, 2, 2], [2, 12, 14, 240, 242, 252, 254, 65280, 65282, 65292], [0, 2, 12, 14, 240, 242, 252, 254, 65280, 65282], [2, 12, 240, 254, 65280, 65438, 65526, 65534, 4294901760, 4294928798], [2, 12, 14, 240, 242, 252, 254, 65280, 65282, 65292], [0, 0, 2, 12, 240, 254, 65280, 65438, 65526, 65534]]
def MK (r c : Nat) : Nat := (MT.getD r []).getD c 0
def mkOk (r c : Nat) : Bool := ((T r c).all fun m => MK r c >>> xs (V r) m % 2 == 1) && ((List.range 32).all fun s => !(MK r c >>> s % 2 == 1) || (T r c).any fun m => xs (V r) m == s)
set_option maxHeartbeats 40000000 in
set_option maxRecDepth 1000000 in
theorem mkAll : ∀ r, r < 6 → ((List.range 10).all fun c => mkOk r c) = true
  | 0, _ => by decide +kernel
  | 1, _ => by decide +kernel
  | 2, _ => by decide +kernel
  | 3, _ => by decide +kernel
  | 4, _ => by decide +kernel
  | 5, _ => by decide +kernel
  | n + 6, h => by omega
theorem mkAt {r c : Nat} (hr : r < 6) (hc : c < 10) : (∀ m ∈ T r c, MK r c >>> xs (V r) m % 2 = 1) ∧ ∀ s, s < 32 → MK r c >>> s % 2 = 1 → ∃ m ∈ T r c, xs (V r) m = s := by
  have h := List.all_eq_true.1 (mkAll r hr) c (List.mem_range.2 hc)
  unfold mkOk at h
  rw [Bool.and_eq_true] at h
  refine ⟨fun m hm => eq_of_beq (List.all_eq_true.1 h.1 m hm), fun s hs hb => ?_⟩
  have h2 := List.all_eq_true.1 h.2 s (List.mem_range.2 hs)
  rw [hb] at h2
  exact by simpa using h2
def gameOk (r row : Nat) : Bool := Nat.blt (xs (V r) row) 32 && (((List.range 10).any fun c => row >>> c % 2 == 1 && MK r c >>> xs (V r) row % 2 == 1) == !(xs (V r) row == 0))
set_option maxHeartbeats 40000000 in
set_option maxRecDepth 1000000 in
theorem gameAll : ∀ r, r < 6 → ((List.range 1024).all fun row => gameOk r row) = true
  | 0, _ => by decide +kernel
  | 1, _ => by decide +kernel
  | 2, _ => by decide +kernel
  | 3, _ => by decide +kernel
  | 4, _ => by decide +kernel
  | 5, _ => by decide +kernel
  | n + 6, h => by omega
theorem turns_mem (r row : Nat) : ∀ (n c m : Nat), m ∈ turnsFrom r row c n ↔ ∃ d, (c ≤ d ∧ d < c + n) ∧ row >>> d % 2 = 1 ∧ m ∈ T r d
  | 0, c, m => by
    refine ⟨fun h => by simp [turnsFrom] at h, ?_⟩
    rintro ⟨d, h, _⟩
    omega
  | n + 1, c, m => by
    unfold turnsFrom
    rw [List.mem_append, turns_mem r row n (c + 1) m]
    constructor
    · rintro (h | ⟨d, ⟨h1, h2⟩, h3, h4⟩)
      · split at h
        · rename_i hb; exact ⟨c, ⟨Nat.le_refl _, by omega⟩, hb, h⟩
        · simp at h
      · exact ⟨d, ⟨by omega, by omega⟩, h3, h4⟩
    · rintro ⟨d, ⟨h1, h2⟩, h3, h4⟩
      by_cases e : d = c
      · subst e; left; rw [if_pos h3]; exact h4
      · right; exact ⟨d, ⟨by omega, by omega⟩, h3, h4⟩
theorem bit_lt {row c : Nat} (h : row < 1024) (hb : row >>> c % 2 = 1) : c < 10 := by
  rcases Nat.lt_or_ge c 10 with h1 | h1
  · exact h1
  · have h2 : 2 ^ 10 ≤ 2 ^ c := Nat.pow_le_pow_right (by decide) h1
    rw [Nat.shiftRight_eq_div_pow, Nat.div_eq_of_lt (by omega)] at hb
    omega
theorem wins_mem {r row m : Nat} (hrow : row < 1024) : m ∈ wins (V r) r row ↔ ∃ c, c < 10 ∧ row >>> c % 2 = 1 ∧ m ∈ T r c ∧ xs (V r) m = xs (V r) row := by
  unfold wins
  rw [List.mem_filter, turns_mem, decide_eq_true_eq]
  constructor
  · rintro ⟨⟨d, _, h3, h4⟩, h5⟩; exact ⟨d, bit_lt hrow h3, h3, h4, h5⟩
  · rintro ⟨d, h1, h3, h4, h5⟩; exact ⟨⟨d, by omega, h3, h4⟩, h5⟩
theorem game {r row : Nat} (hr : r < 6) (hrow : row < 1024) : wins (V r) r row = [] ↔ xs (V r) row = 0 := by
  have h := List.all_eq_true.1 (gameAll r hr) row (List.mem_range.2 hrow)
  unfold gameOk at h
  rw [Bool.and_eq_true, Nat.blt_eq] at h
  obtain ⟨hlt, h⟩ := h
  have h2 := eq_of_beq h
  refine ⟨fun hw => ?_, fun h0 => ?_⟩
  · refine Classical.byContradiction fun hn => ?_
    rw [show (!(xs (V r) row == 0)) = true by simp [hn]] at h2
    obtain ⟨c, hc, h4⟩ := List.any_eq_true.1 h2
    simp only [Bool.and_eq_true, beq_iff_eq] at h4
    obtain ⟨m, hm, hx⟩ := (mkAt hr (List.mem_range.1 hc)).2 _ hlt h4.2
    have h5 : m ∈ wins (V r) r row := (wins_mem hrow).2 ⟨c, List.mem_range.1 hc, h4.1, hm, hx⟩
    rw [hw] at h5
    simp at h5
  · rw [List.eq_nil_iff_forall_not_mem]
    intro m hm
    obtain ⟨c, hc, hb, hmT, hx⟩ := (wins_mem hrow).1 hm
    rw [show (!(xs (V r) row == 0)) = false by simp [h0]] at h2
    have h3 := List.any_eq_false.1 h2 c (List.mem_range.2 hc)
    have h6 := (mkAt hr hc).1 m hmT
    rw [hx] at h6
    simp [hb, h6] at h3
theorem win_zero {r row m : Nat} (hr : r < 6) (hrow : row < 1024) (hm : m ∈ wins (V r) r row) : m < 1024 ∧ row ^^^ m < 1024 ∧ xs (V r) (row ^^^ m) = 0 := by
  obtain ⟨c, hc, hb, hmT, hx⟩ := (wins_mem hrow).1 hm
  have h1 := ((T_spec hr (show c < 24 by omega)).2.1 m hmT).2
  have h2 : 2 ^ (c + 1) ≤ 2 ^ 10 := Nat.pow_le_pow_right (by decide) (by omega)
  have h3 : m < 1024 := by omega
  exact ⟨h3, Nat.xor_lt_two_pow (n := 10) hrow h3, by rw [xs_xor, hx, Nat.xor_self]⟩
def ascOk (l : List Nat) : Bool := (List.range l.length).all fun i => i == 0 || Nat.blt (l.getD (i - 1) 0) (l.getD i 0)
def mayOk (r c : Nat) : Bool := ((T r c).all fun m => decide (impl_mayTurn.f 10 (r : Int) (m : Int) = some true) && decide (bits_Len32.f (m : Int) = some ((c + 1 : Nat) : Int)) && decide (shr .u32 (m : Int) (c : Int) = 1)) && ascOk (T r c)
set_option maxHeartbeats 40000000 in
set_option maxRecDepth 1000000 in
theorem mayAll : ∀ r, r < 6 → ((List.range 10).all fun c => mayOk r c) = true
  | 0, _ => by decide +kernel
  | 1, _ => by decide +kernel
  | 2, _ => by decide +kernel
  | 3, _ => by decide +kernel
  | 4, _ => by decide +kernel
  | 5, _ => by decide +kernel
  | n + 6, h => by omega
theorem mayAt {r c : Nat} (hr : r < 6) (hc : c < 10) : (∀ m ∈ T r c, ((∀ k, 10 ≤ k → impl_mayTurn.f k (r : Int) (m : Int) = some true) ∧ bits_Len32.f (m : Int) = some ((c + 1 : Nat) : Int)) ∧ shr .u32 (m : Int) (c : Int) = 1) ∧ ∀ i, 0 < i → i < (T r c).length → (T r c).getD (i - 1) 0 < (T r c).getD i 0 := by
  have h := List.all_eq_true.1 (mayAll r hr) c (List.mem_range.2 hc)
  unfold mayOk ascOk at h
  rw [Bool.and_eq_true] at h
  refine ⟨fun m hm => ?_, fun i h0 hi => ?_⟩
  · have h1 := List.all_eq_true.1 h.1 m hm
    simp only [Bool.and_eq_true, decide_eq_true_eq] at h1
    exact ⟨⟨lift (impl_mayTurn.mono _ _) h1.1.1, h1.1.2⟩, h1.2⟩
  · have h1 := List.all_eq_true.1 h.2 i (List.mem_range.2 hi)
    rw [Bool.or_eq_true] at h1
    rcases h1 with h1 | h1
    · have := eq_of_beq h1; omega
    · exact Nat.blt_eq.mp h1
theorem xs_take : ∀ (l : List Nat) (c n : Nat), n < 2 ^ c → xs (l.take c) n = xs l n
  | [], _, _, _ => by simp
  | v :: l, 0, n, h => by
    obtain rfl : n = 0 := by simpa using h
    rw [xs_zero, xs_zero]
  | v :: l, c + 1, n, h => by
    rw [List.take_succ_cons]
    unfold xs
    rw [xs_take l c (n / 2) (by rw [Nat.pow_succ] at h; omega)]
theorem below_top {r c m : Nat} (hr : r < 6) (hc : c < 10) (hm : m ∈ T r c) : xs (V r) (m - 2 ^ c) = xs ((V r).take c) m ∧ m - 2 ^ c < 2 ^ 24 := by
  obtain ⟨ha, hb⟩ := (T_spec hr (show c < 24 by omega)).2.1 m hm
  have hp : 2 ^ (c + 1) = 2 * 2 ^ c := by rw [Nat.pow_succ, Nat.mul_comm]
  have h2 : 2 ^ (c + 1) ≤ 2 ^ 10 := Nat.pow_le_pow_right (by decide) (by omega)
  have hlen : ((V r).take c).length = c := by rw [List.length_take, V_len hr]; omega
  refine ⟨?_, by omega⟩
  rw [← xs_take _ c (m - 2 ^ c) (by omega), ← xs_mod _ m, hlen]
  congr 1
  rw [← Nat.sub_add_cancel ha, Nat.add_mod_right, Nat.mod_eq_of_lt (by omega)]
  omega
end Go.Proofs.YtkgnjfoclhkgkaaDoor.Given
