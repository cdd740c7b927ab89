/- Walks of functions that the print does not take. -/
import Derived.Test.YthjbeglmdifhdaaProg
import Derived.Below
import Derived.Deep.Draws
import Derived.Deep.AppendLies
import Derived.Maps.AppendAt
import Derived.OwnWalk
import Derived.Laws.BytesArg
import Derived.Laws.MakeOwn
import Derived.Laws.OwnMore
import Derived.Deep.OwnRows
import Derived.Tactics
import Derived.Lib.ConvBytes
import Derived.Laws.Slices
import Derived.WalkKit
import Derived.KernelRfl
import Derived.RowKit3
import Derived.Deep.LoopGhost
import Derived.Deep.QuietTactic
import Derived.BigQuiet
import Derived.WideLaws
import Derived.Deep.DeepCutAuto
import Derived.Deep.CutBlock
import Derived.Deep.RegionHeld3
import Derived.Laws.Rows
import Derived.Lib.AppendStr
import Derived.ArgAppend
import Derived.Laws.IdiomCopy
import Derived.OrdersHeld
import Derived.Laws.BitsLemmas
import Derived.RowKit
import Derived.Lib.Hide
import Derived.WalkSpells
import Derived.Test.YthjbeglmdifhdaaWWords
import Derived.Test.YthjbeglmdifhdaaWLast
import Derived.Test.YthjbeglmdifhdaaWTab
import Derived.Test.YthjbeglmdifhdaaWFour
import Derived.Test.YthjbeglmdifhdaaWQPut
import Derived.Test.YthjbeglmdifhdaaWApart
import Derived.Test.YthjbeglmdifhdaaWArr
import Derived.Test.YthjbeglmdifhdaaWZeros
import Derived.Test.YthjbeglmdifhdaaWFoot
import Derived.Test.YthjbeglmdifhdaaWKept
import Derived.Test.YthjbeglmdifhdaaWShare
import Derived.Test.YthjbeglmdifhdaaWN
import Derived.Test.YthjbeglmdifhdaaWFootNe
import Derived.Test.YthjbeglmdifhdaaWAt
import Derived.Test.YthjbeglmdifhdaaWEqStruct
import Derived.Test.YthjbeglmdifhdaaWRepsOne
import Derived.Test.YthjbeglmdifhdaaWInv
import Derived.Test.YthjbeglmdifhdaaWInvWords
import Derived.Test.YthjbeglmdifhdaaWGuard
import Derived.Test.YthjbeglmdifhdaaWNEv
import Derived.Test.YthjbeglmdifhdaaWMore
import Derived.Test.YthjbeglmdifhdaaN1
namespace Go.Proofs.Ythjbeglmdifhdaa.Given
open Go.RowKit Go.Proofs.YthjbeglmdifhdaaW.PrintWords Go.Proofs.YthjbeglmdifhdaaW.PrintLast Go.Proofs.YthjbeglmdifhdaaW.PrintMore Go.Proofs.Ythjbeglmdifhdaa.NimF Go.Proofs.Ythjbeglmdifhdaa.NimGo
set_option linter.unusedVariables false
set_option linter.unusedSimpArgs false
set_option maxHeartbeats 1000000 in
set_option maxRecDepth 100000 in
theorem l01_small (l : Nat) (x y : Int) (hx0 : 0 ≤ x) (hy0 : 0 ≤ y) (hx : x < ((2 ^ 2 ^ l : Nat) : Int)) (hy : y < ((2 ^ 2 ^ l : Nat) : Int)) (h : x < 2 ∨ y < 2) (w : World) :
    Calls Try.prog 39 #[.int .u16 x, .int .u16 y] w fun e w' => e = .returned (.int .u16 (IntKind.u16.wrap (x * y))) ∧ Drawn0 w w' := by
  by_cases h1 : x < 2
  · have c1 : decide (x < 2) = true := decide_eq_true h1
    clear h
    go_enter Try.func39, Try.ntmps39
    go_wp2
    go_ret
    exact ⟨rfl, Drawn0.refl _⟩
  · have c1 : decide (x < 2) = false := decide_eq_false h1
    have h2 : y < 2 := by omega
    have c2 : decide (y < 2) = true := decide_eq_true h2
    clear h
    go_enter Try.func39, Try.ntmps39
    go_wp2
    go_ret
    exact ⟨rfl, Drawn0.refl _⟩
theorem pow_cases' {l : Nat} (h : l ≤ 3) : l = 0 ∨ l = 1 ∨ l = 2 ∨ l = 3 := by omega
theorem dbl' {l : Nat} (h : l ≤ 3) : IntKind.u64.wrap (2 * ((2 ^ l : Nat) : Int)) = ((2 ^ (l + 1) : Nat) : Int) := by
  rcases pow_cases' h with rfl | rfl | rfl | rfl <;> decide
theorem small_iff {x : Int} {j : Nat} (h : j ≤ 3) (h0 : 0 ≤ x) : shr .u16 x ((2 ^ (j + 1) : Nat) : Int) = 0 ↔ x < ((2 ^ 2 ^ (j + 1) : Nat) : Int) := by
  obtain ⟨n, rfl⟩ := Int.eq_ofNat_of_zero_le h0
  have h16 : 2 ^ (j + 1) ≤ 16 := by rcases pow_cases' h with rfl | rfl | rfl | rfl <;> decide
  rw [shr16 h16, Nat.shiftRight_eq_div_pow]
  have := Nat.div_eq_zero_iff_lt (x := n) (Nat.two_pow_pos (2 ^ (j + 1)))
  omega
theorem pow_range {j : Nat} (h : j ≤ 3) : 1 ≤ ((2 ^ j : Nat) : Int) ∧ ((2 ^ j : Nat) : Int) ≤ 8 := by
  rcases pow_cases' h with rfl | rfl | rfl | rfl <;> decide
theorem pow_ge8 {j : Nat} (h : j ≤ 3) (h8 : ¬ ((2 ^ j : Nat) : Int) < 8) : j = 3 := by
  rcases pow_cases' h with rfl | rfl | rfl | rfl
  · exact absurd (by decide) h8
  · exact absurd (by decide) h8
  · exact absurd (by decide) h8
  · rfl
theorem pow_mono {i j : Nat} (h : i ≤ j) : ((2 ^ 2 ^ i : Nat) : Int) ≤ ((2 ^ 2 ^ j : Nat) : Int) := by
  exact_mod_cast Nat.pow_le_pow_right (show 0 < 2 by omega) (Nat.pow_le_pow_right (show 0 < 2 by omega) h)
theorem measure_dbl {j : Nat} (h : j ≤ 2) : 16 - (((2 ^ (j + 1) : Nat) : Int)).toNat < 16 - (((2 ^ j : Nat) : Int)).toNat := by
  have : j = 0 ∨ j = 1 ∨ j = 2 := by omega
  rcases this with rfl | rfl | rfl <;> decide
theorem pow3_lt (j : Nat) (h : j ≤ 3) (h8 : ((2 ^ j : Nat) : Int) < 8) : j ≤ 2 := by
  rcases pow_cases' h with rfl | rfl | rfl | rfl
  · omega
  · omega
  · omega
  · exact absurd h8 (by decide)

theorem part_range {x : Int} {j : Nat} (h : j ≤ 3) (h0 : 0 ≤ x) (hx : x < ((2 ^ 2 ^ (j + 1) : Nat) : Int)) :
    0 ≤ shr .u16 x ((2 ^ j : Nat) : Int) ∧ shr .u16 x ((2 ^ j : Nat) : Int) < ((2 ^ 2 ^ j : Nat) : Int) ∧ 0 ≤ x % shl .u16 1 ((2 ^ j : Nat) : Int) ∧ x % shl .u16 1 ((2 ^ j : Nat) : Int) < ((2 ^ 2 ^ j : Nat) : Int) := by
  obtain ⟨a, rfl⟩ := Int.eq_ofNat_of_zero_le h0
  have ha : a < 2 ^ 2 ^ (j + 1) := by exact_mod_cast hx
  have h1 := shr_pow_lt ha
  have hpos := Nat.two_pow_pos (2 ^ j)
  rw [d_eq h, shr16 (by have := pow_le_8 h; omega)]
  have h2 : ((a : Int) % ((2 ^ 2 ^ j : Nat) : Int)) = ((a % 2 ^ 2 ^ j : Nat) : Int) := by simp
  have h3 := Nat.mod_lt a hpos
  rw [h2]
  exact ⟨Int.natCast_nonneg _, by exact_mod_cast h1, Int.natCast_nonneg _, by exact_mod_cast h3⟩
theorem d_range {j : Nat} (h : j ≤ 3) :
    0 < shl .u16 1 ((2 ^ j : Nat) : Int) ∧ shl .u16 1 ((2 ^ j : Nat) : Int) ≤ 256 ∧ 0 ≤ shl .u16 1 ((2 ^ j : Nat) : Int) / 2 ∧ shl .u16 1 ((2 ^ j : Nat) : Int) / 2 < ((2 ^ 2 ^ j : Nat) : Int) := by
  rcases pow_cases' h with rfl | rfl | rfl | rfl <;> decide
theorem nm_int_lt (j a b : Nat) : 0 ≤ ((nm j a b : Nat) : Int) ∧ ((nm j a b : Nat) : Int) < ((2 ^ 2 ^ j : Nat) : Int) :=
  ⟨Int.natCast_nonneg _, by exact_mod_cast nm_lt j a b⟩
theorem ret16 {a b : Int} (h : a = b) : Ending.returned (.int .u16 a) = .returned (.int .u16 b) := by rw [h]
theorem half_eq (D : Int) (h0 : 0 ≤ D) (h : D ≤ 256) : IntKind.u16.wrap (D.tdiv 2) = D / 2 := by
  rw [Int.tdiv_eq_ediv_of_nonneg h0]
  exact wraps_u16 _ (by omega) (by omega)
theorem small_eq {j : Nat} (hj : j ≤ 4) {x y : Int} (hx0 : 0 ≤ x) (hy0 : 0 ≤ y) (hx : x < ((2 ^ 2 ^ j : Nat) : Int)) (hy : y < ((2 ^ 2 ^ j : Nat) : Int)) (h : x < 2 ∨ y < 2) :
    IntKind.u16.wrap (x * y) = ((nm j x.toNat y.toNat : Nat) : Int) := by
  obtain ⟨a, rfl⟩ := Int.eq_ofNat_of_zero_le hx0
  obtain ⟨b, rfl⟩ := Int.eq_ofNat_of_zero_le hy0
  rw [Int.toNat_natCast, Int.toNat_natCast]
  have ha : a < 2 ^ 2 ^ j := by exact_mod_cast hx
  have hb : b < 2 ^ 2 ^ j := by exact_mod_cast hy
  have hv : nm j a b = a * b := by
    rcases h with h | h
    · have : a = 0 ∨ a = 1 := by omega
      rcases this with rfl | rfl
      · rw [nm_zero_left, Nat.zero_mul]
      · rw [nm_one_left, Nat.one_mul, Nat.mod_eq_of_lt hb]
    · have : b = 0 ∨ b = 1 := by omega
      rcases this with rfl | rfl
      · rw [nm_zero_right, Nat.mul_zero]
      · rw [nm_comm, nm_one_left, Nat.mul_one, Nat.mod_eq_of_lt ha]
  have hlt := Nat.lt_of_lt_of_le (nm_lt j a b) (pow_pow_le hj)
  rw [show ((a : Int) * b) = ((a * b : Nat) : Int) by simp, ← hv, wraps_u16 _ (by omega) (by omega)]
theorem fin_eq {x y : Int} {j m : Nat} (h : j ≤ 3) (hj : j ≤ m) (hx0 : 0 ≤ x) (hy0 : 0 ≤ y) (hx : x < ((2 ^ 2 ^ (j + 1) : Nat) : Int)) (hy : y < ((2 ^ 2 ^ (j + 1) : Nat) : Int)) :
    IntKind.u16.wrap ((IntKind.u16.wrap (shl .u16 1 ((2 ^ j : Nat) : Int) * Go.bits .xor .u16 (Go.bits .xor .u16 ((nm j (shr .u16 x ((2 ^ j : Nat) : Int)).toNat (shr .u16 y ((2 ^ j : Nat) : Int)).toNat : Nat) : Int) ((nm j (shr .u16 x ((2 ^ j : Nat) : Int)).toNat (y % shl .u16 1 ((2 ^ j : Nat) : Int)).toNat : Nat) : Int)) ((nm j (x % shl .u16 1 ((2 ^ j : Nat) : Int)).toNat (shr .u16 y ((2 ^ j : Nat) : Int)).toNat : Nat) : Int))) +
      Go.bits .xor .u16 ((nm j (x % shl .u16 1 ((2 ^ j : Nat) : Int)).toNat (y % shl .u16 1 ((2 ^ j : Nat) : Int)).toNat : Nat) : Int) ((nm j ((nm j (shr .u16 x ((2 ^ j : Nat) : Int)).toNat (shr .u16 y ((2 ^ j : Nat) : Int)).toNat : Nat) : Int).toNat (shl .u16 1 ((2 ^ j : Nat) : Int) / 2).toNat : Nat) : Int))
    = ((nm (m + 1) x.toNat y.toNat : Nat) : Int) := by
  obtain ⟨a, rfl⟩ := Int.eq_ofNat_of_zero_le hx0
  obtain ⟨b, rfl⟩ := Int.eq_ofNat_of_zero_le hy0
  have ha : a < 2 ^ 2 ^ (j + 1) := by exact_mod_cast hx
  have hb : b < 2 ^ 2 ^ (j + 1) := by exact_mod_cast hy
  have hpos := Nat.two_pow_pos (2 ^ j)
  have e8 := pow_le_8 h
  have h256 := d_lt h
  have m1 : ((a : Int) % ((2 ^ 2 ^ j : Nat) : Int)) = ((a % 2 ^ 2 ^ j : Nat) : Int) := by simp
  have m2 : ((b : Int) % ((2 ^ 2 ^ j : Nat) : Int)) = ((b % 2 ^ 2 ^ j : Nat) : Int) := by simp
  have dh : shl .u16 1 ((2 ^ j : Nat) : Int) / (2 : Int) = ((1 <<< (2 ^ j - 1) : Nat) : Int) := by rcases pow_cases' h with rfl | rfl | rfl | rfl <;> decide
  rw [dh, d_eq h, shr16 (by omega), shr16 (by omega), m1, m2]
  simp only [Int.toNat_natCast]
  rw [nm_mod_right, nm_mod_left, nm_mod_left, nm_mod_right]
  have c1 := nm_lt j (a >>> 2 ^ j) (b >>> 2 ^ j)
  have c2 := nm_lt j (a >>> 2 ^ j) b
  have c3 := nm_lt j a (b >>> 2 ^ j)
  have c4 := nm_lt j a b
  have c5 := nm_lt j (nm j (a >>> 2 ^ j) (b >>> 2 ^ j)) (1 <<< (2 ^ j - 1))
  have c12 := Nat.xor_lt_two_pow c1 c2
  rw [xor16 (by omega) (by omega), xor16 (by omega) (by omega), xor16 (by omega) (by omega), join_eq h (Nat.xor_lt_two_pow c12 c3) (Nat.xor_lt_two_pow c4 c5), ← nm_succ, nm_level_le ha hb (m + 1) (by omega)]

set_option maxHeartbeats 4000000 in
set_option maxRecDepth 100000 in
theorem l01_big (m : Nat) (hm : m ≤ 3)
    (ih : ∀ j, j ≤ m → ∀ (x y : Int), 0 ≤ x → x < ((2 ^ 2 ^ j : Nat) : Int) → 0 ≤ y → y < ((2 ^ 2 ^ j : Nat) : Int) → ∀ w, Calls Try.prog 39 #[.int .u16 x, .int .u16 y] w fun e w' => e = .returned (.int .u16 ((nm j x.toNat y.toNat : Nat) : Int)) ∧ Drawn0 w w')
    (x y : Int) (hx0 : 2 ≤ x) (hy0 : 2 ≤ y) (hx : x < ((2 ^ 2 ^ (m + 1) : Nat) : Int)) (hy : y < ((2 ^ 2 ^ (m + 1) : Nat) : Int)) (w : World) :
    Calls Try.prog 39 #[.int .u16 x, .int .u16 y] w fun e w' => e = .returned (.int .u16 ((nm (m + 1) x.toNat y.toNat : Nat) : Int)) ∧ Drawn0 w w' := by
  have c1 : decide (x < 2) = false := decide_eq_false (by omega)
  have c2 : decide (y < 2) = false := decide_eq_false (by omega)
  have HX := Lib.hid hx
  have HY := Lib.hid hy
  have IH := Lib.hid ih
  clear hx hy ih
  go_enter Try.func39, Try.ntmps39
  go_upto_block 0 with (fail)
  go_cut [5] (fun v5 wc => ∃ j : Nat, j ≤ m ∧ v5 = .int .u64 ((2 ^ j : Nat) : Int) ∧ Hid (x < ((2 ^ 2 ^ (j + 1) : Nat) : Int)) ∧ Hid (y < ((2 ^ 2 ^ (j + 1) : Nat) : Int)) ∧ Drawn0 w wc)
  case first =>
    go_wp2
    go_loop [5] (fun v5 => ∃ j : Nat, j ≤ m ∧ v5 = .int .u64 ((2 ^ j : Nat) : Int)) (fun v5 => 16 - (intOf v5).toNat)
    case atStart => exact ⟨0, by omega, rfl⟩
    case round =>
      obtain ⟨j, hj, rfl⟩ := hrel
      have R := Lib.hid (pow_range (j := j) (by omega))
      have DB := Lib.hid (dbl' (l := j) (by omega))
      have SX := Lib.hid (small_iff (x := x) (j := j) (by omega) (by omega))
      have SY := Lib.hid (small_iff (x := y) (j := j) (by omega) (by omega))
      have G8 := Lib.hid (fun h => pow_ge8 (j := j) (by omega) h)
      have L8 := Lib.hid (fun h => pow3_lt j (by omega) h)
      have MS := Lib.hid (fun h => measure_dbl (j := j) h)
      obtain ⟨p, hp⟩ : ∃ p : Int, ((2 ^ j : Nat) : Int) = p := ⟨_, rfl⟩
      rw [hp] at R DB G8 L8 MS ⊢
      have HP := Lib.hid hp
      clear hp
      obtain ⟨q, hq⟩ : ∃ q : Int, IntKind.u64.wrap (2 * p) = q := ⟨_, rfl⟩
      rw [hq] at DB
      have HQ := Lib.hid DB.out
      have q0 : (0 ≤ q) := by rw [HQ.out]; exact Int.natCast_nonneg _
      have c9b0 := eq_true q0
      have c9b1 : decide (0 ≤ q) = true := decide_eq_true q0
      rw [← HQ.out] at SX SY MS
      clear DB q0
      by_cases h8 : p < 8
      · have c7b0 : decide (p < 8) = true := decide_eq_true h8
        have J2 := Lib.hid (L8.out h8)
        clear h8 L8 G8
        obtain ⟨s, hs⟩ : ∃ s : Int, shr .u16 x q = s := ⟨_, rfl⟩
        rw [hs] at SX
        have hs_ : (x / 2 ^ min q.toNat 16) = s := hs
        have hsz : q ≤ 16 → (x / 2 ^ q.toNat) = s := shr_small hs
        obtain ⟨t, ht⟩ : ∃ t : Int, shr .u16 y q = t := ⟨_, rfl⟩
        rw [ht] at SY
        have ht_ : (y / 2 ^ min q.toNat 16) = t := ht
        have htz : q ≤ 16 → (y / 2 ^ q.toNat) = t := shr_small ht
        by_cases hs0 : s = 0
        · have d1 : (s == 0) = true := beq_iff_eq.mpr hs0
          have d2 : (s != 0) = false := bne_eq_false_iff_eq.mpr hs0
          have XS := Lib.hid (SX.out.1 hs0)
          clear hs0 SX
          by_cases ht0 : t = 0
          · have d3 : (t == 0) = true := beq_iff_eq.mpr ht0
            have d4 : (t != 0) = false := bne_eq_false_iff_eq.mpr ht0
            have YS := Lib.hid (SY.out.1 ht0)
            clear ht0 SY
            go_wp2
            go_meet
            case rel => exact ⟨j, hj, by rw [HP.out], XS, YS, Drawn0.refl _⟩
          · have d3 : (t == 0) = false := beq_eq_false_iff_ne.mpr ht0
            have d4 : (t != 0) = true := bne_iff_ne.mpr ht0
            have hjm : Hid (j < m) := Lib.hid (show j < m by
              rcases Nat.lt_or_ge j m with h | h
              · exact h
              · have : j = m := by omega
                subst this
                exact absurd (SY.out.2 HY.out) ht0)
            clear ht0 SY
            go_wp2
            go_round
            case rel => exact ⟨j + 1, by have := hjm.out; omega, by rw [HQ.out]⟩
            case measure => simp only [intOf]; exact MS.out J2.out
        · have d1 : (s == 0) = false := beq_eq_false_iff_ne.mpr hs0
          have d2 : (s != 0) = true := bne_iff_ne.mpr hs0
          have hjm : Hid (j < m) := Lib.hid (show j < m by
              rcases Nat.lt_or_ge j m with h | h
              · exact h
              · have : j = m := by omega
                subst this
                exact absurd (SX.out.2 HX.out) hs0)
          clear hs0 SX
          go_wp2
          go_round
          case rel => exact ⟨j + 1, by have := hjm.out; omega, by rw [HQ.out]⟩
          case measure => simp only [intOf]; exact MS.out J2.out
      · have c7b0 : decide (p < 8) = false := decide_eq_false h8
        have J3 := Lib.hid (G8.out h8)
        clear h8
        go_wp2
        go_meet
        case rel =>
          have hjm : j = m := by have := J3.out; omega
          subst hjm
          exact ⟨j, hj, by rw [HP.out], HX, HY, Drawn0.refl _⟩
  case rest =>
    obtain ⟨j, hj, rfl, XS, YS, ⟨mc, rfl⟩⟩ := hcut
    have hj3 : j ≤ 3 := by omega
    have IHj := Lib.hid (IH.out j hj)
    have FIN := Lib.hid (fin_eq (j := j) (m := m) hj3 hj (by omega) (by omega) XS.out YS.out)
    have RA := Lib.hid (part_range (x := x) (j := j) hj3 (by omega) XS.out)
    have RB := Lib.hid (part_range (x := y) (j := j) hj3 (by omega) YS.out)
    have RD := Lib.hid (d_range (j := j) hj3)
    have P0 := Lib.hid (pow_range (j := j) hj3).1
    clear IH XS YS HX HY hj
    obtain ⟨p, hp⟩ : ∃ p : Int, ((2 ^ j : Nat) : Int) = p := ⟨_, rfl⟩
    rw [hp] at FIN RA RB RD P0 ⊢
    clear hp
    have q0 : (0 ≤ p) := by have := P0.out; omega
    have c9b0 := eq_true q0
    have c9b1 : decide (0 ≤ p) = true := decide_eq_true q0
    clear q0 P0
    obtain ⟨D, hD⟩ : ∃ q : Int, shl .u16 1 p = q := ⟨_, rfl⟩
    rw [hD] at FIN RD RA RB
    have hD_ : (IntKind.u16.wrap (1 * 2 ^ min p.toNat 16)) = D := hD
    have hDz : p ≤ 16 → (IntKind.u16.wrap (1 * 2 ^ p.toNat)) = D := shl_small hD
    have hDu : (IntKind.u16.wrap (2 ^ min p.toNat 16)) = D := by have h_ := hD_; rw [Int.one_mul] at h_; exact h_
    have hDv : p ≤ 16 → (IntKind.u16.wrap (2 ^ p.toNat)) = D := fun hle_ => by have h_ := hDz hle_; rw [Int.one_mul] at h_; exact h_
    have D0 : 0 < D := RD.out.1
    have D1 : D ≤ 256 := RD.out.2.1
    have D2 : (D == 0) = false := beq_eq_false_iff_ne.mpr (by omega)
    have D3 : (D != 0) = true := bne_iff_ne.mpr (by omega)
    obtain ⟨a1, ha1⟩ : ∃ q : Int, shr .u16 x p = q := ⟨_, rfl⟩
    rw [ha1] at FIN RA
    have ha1_ : (x / 2 ^ min p.toNat 16) = a1 := ha1
    have ha1z : p ≤ 16 → (x / 2 ^ p.toNat) = a1 := shr_small ha1
    obtain ⟨b1, hb1⟩ : ∃ q : Int, shr .u16 y p = q := ⟨_, rfl⟩
    rw [hb1] at FIN RB
    have hb1_ : (y / 2 ^ min p.toNat 16) = b1 := hb1
    have hb1z : p ≤ 16 → (y / 2 ^ p.toNat) = b1 := shr_small hb1
    have RXY := Lib.hid (And.intro RA.out RB.out)
    go_wp2_with (fail)
    refine (IHj.out _ _ RA.out.1 RA.out.2.1 RB.out.1 RB.out.2.1 _).mono ?_
    rintro e w' ⟨rfl, ⟨n1, rfl⟩⟩
    have N1 := Lib.hid (nm_int_lt j a1.toNat b1.toNat)
    obtain ⟨t1, ht1⟩ : ∃ t : Int, ((nm j a1.toNat b1.toNat : Nat) : Int) = t := ⟨_, rfl⟩
    rw [ht1] at FIN N1 ⊢
    clear ht1
    go_wp2_with (fail)
    refine (IHj.out _ _ RA.out.1 RA.out.2.1 RB.out.2.2.1 RB.out.2.2.2 _).mono ?_
    rintro e w' ⟨rfl, ⟨n2, rfl⟩⟩
    obtain ⟨t2, ht2⟩ : ∃ t : Int, ((nm j a1.toNat (y % D).toNat : Nat) : Int) = t := ⟨_, rfl⟩
    rw [ht2] at FIN ⊢
    clear ht2
    go_wp2_with (fail)
    refine (IHj.out _ _ RA.out.2.2.1 RA.out.2.2.2 RB.out.1 RB.out.2.1 _).mono ?_
    rintro e w' ⟨rfl, ⟨n3, rfl⟩⟩
    obtain ⟨t3, ht3⟩ : ∃ t : Int, ((nm j (x % D).toNat b1.toNat : Nat) : Int) = t := ⟨_, rfl⟩
    rw [ht3] at FIN ⊢
    clear ht3
    go_wp2_with (fail)
    refine (IHj.out _ _ RA.out.2.2.1 RA.out.2.2.2 RB.out.2.2.1 RB.out.2.2.2 _).mono ?_
    rintro e w' ⟨rfl, ⟨n4, rfl⟩⟩
    obtain ⟨t4, ht4⟩ : ∃ t : Int, ((nm j (x % D).toNat (y % D).toNat : Nat) : Int) = t := ⟨_, rfl⟩
    rw [ht4] at FIN ⊢
    clear ht4
    go_wp2_with (fail)
    rw [half_eq D (by omega) D1]
    refine (IHj.out _ _ N1.out.1 N1.out.2 RD.out.2.2.1 RD.out.2.2.2 _).mono ?_
    rintro e w' ⟨rfl, ⟨n5, rfl⟩⟩
    obtain ⟨t5, ht5⟩ : ∃ t : Int, ((nm j t1.toNat (D / 2).toNat : Nat) : Int) = t := ⟨_, rfl⟩
    rw [ht5] at FIN ⊢
    clear ht5
    go_wp2
    go_ret
    exact ⟨ret16 FIN.out, by repeat (first | exact Drawn0.refl _ | apply Drawn0.step)⟩

theorem l01_all : ∀ l, l ≤ 4 → ∀ j, j ≤ l → ∀ (x y : Int), 0 ≤ x → x < ((2 ^ 2 ^ j : Nat) : Int) → 0 ≤ y → y < ((2 ^ 2 ^ j : Nat) : Int) → ∀ w, Calls Try.prog 39 #[.int .u16 x, .int .u16 y] w fun e w' => e = .returned (.int .u16 ((nm j x.toNat y.toNat : Nat) : Int)) ∧ Drawn0 w w' := by
  have small : ∀ j, j ≤ 4 → ∀ (x y : Int), 0 ≤ x → x < ((2 ^ 2 ^ j : Nat) : Int) → 0 ≤ y → y < ((2 ^ 2 ^ j : Nat) : Int) → (x < 2 ∨ y < 2) → ∀ w, Calls Try.prog 39 #[.int .u16 x, .int .u16 y] w fun e w' => e = .returned (.int .u16 ((nm j x.toNat y.toNat : Nat) : Int)) ∧ Drawn0 w w' := by
    intro j hj x y hx0 hx hy0 hy h w
    have := l01_small j x y hx0 hy0 hx hy h w
    rw [small_eq hj hx0 hy0 hx hy h] at this
    exact this
  intro l
  induction l with
  | zero =>
    intro _ j hj x y hx0 hx hy0 hy w
    have hj0 : j = 0 := by omega
    subst hj0
    exact small 0 (by omega) x y hx0 hx hy0 hy (.inl hx) w
  | succ l ih =>
    intro hl j hj x y hx0 hx hy0 hy w
    by_cases hjl : j ≤ l
    · exact ih (by omega) j hjl x y hx0 hx hy0 hy w
    have hj1 : j = l + 1 := by omega
    subst hj1
    by_cases h2 : x < 2 ∨ y < 2
    · exact small _ hl x y hx0 hx hy0 hy h2 w
    · exact l01_big l (by omega) (ih (by omega)) x y (by omega) (by omega) hx hy w


end Go.Proofs.Ythjbeglmdifhdaa.Given
