/- Walks of functions that the print does not take. -/
import Derived.Test.YthjbeglmdifhdaaProg
import Derived.Below
import Derived.Deep.Draws
import Derived.Deep.AppendLies
import Derived.Maps.AppendAt
import Derived.OwnWalk
import Derived.Laws.BytesArg
import Derived.Laws.MakeOwn
import Derived.Laws.OwnMore
import Derived.Deep.OwnRows
import Derived.Tactics
import Derived.Lib.ConvBytes
import Derived.Laws.Slices
import Derived.WalkKit
import Derived.KernelRfl
import Derived.RowKit3
import Derived.Deep.LoopGhost
import Derived.Deep.QuietTactic
import Derived.BigQuiet
import Derived.WideLaws
import Derived.Deep.DeepCutAuto
import Derived.Deep.CutBlock
import Derived.Deep.RegionHeld3
import Derived.Laws.Rows
import Derived.Lib.AppendStr
import Derived.ArgAppend
import Derived.Laws.IdiomCopy
import Derived.OrdersHeld
import Derived.Laws.BitsLemmas
import Derived.RowKit
import Derived.Lib.Hide
import Derived.WalkSpells
import Derived.Test.YthjbeglmdifhdaaWWords
import Derived.Test.YthjbeglmdifhdaaWLast
import Derived.Test.YthjbeglmdifhdaaWTab
import Derived.Test.YthjbeglmdifhdaaWFour
import Derived.Test.YthjbeglmdifhdaaWQPut
import Derived.Test.YthjbeglmdifhdaaWApart
import Derived.Test.YthjbeglmdifhdaaWArr
import Derived.Test.YthjbeglmdifhdaaWZeros
import Derived.Test.YthjbeglmdifhdaaWFoot
import Derived.Test.YthjbeglmdifhdaaWKept
import Derived.Test.YthjbeglmdifhdaaWShare
import Derived.Test.YthjbeglmdifhdaaWN
import Derived.Test.YthjbeglmdifhdaaWFootNe
import Derived.Test.YthjbeglmdifhdaaWAt
import Derived.Test.YthjbeglmdifhdaaWEqStruct
import Derived.Test.YthjbeglmdifhdaaWRepsOne
import Derived.Test.YthjbeglmdifhdaaWInv
import Derived.Test.YthjbeglmdifhdaaWInvWords
import Derived.Test.YthjbeglmdifhdaaWGuard
import Derived.Test.YthjbeglmdifhdaaWNEv
import Derived.Test.YthjbeglmdifhdaaWMore
import Derived.Test.YthjbeglmdifhdaaN1
import Derived.Test.YthjbeglmdifhdaaPFnExactValidCircuitx1
import Derived.Test.YthjbeglmdifhdaaPFnExactValidCircuitx2
namespace Go.Proofs.Ythjbeglmdifhdaa.Given
open Go.RowKit Go.Proofs.YthjbeglmdifhdaaW.PrintWords Go.Proofs.YthjbeglmdifhdaaW.PrintLast Go.Proofs.YthjbeglmdifhdaaW.PrintMore Go.Proofs.Ythjbeglmdifhdaa.NimF Go.Proofs.Ythjbeglmdifhdaa.NimGo
set_option linter.unusedVariables false
set_option linter.unusedSimpArgs false
open Go.Proofs.Ythjbeglmdifhdaa.PFnExactValidCircuit
theorem win_f (a b c : Int) : impl_within.f a b c = some (decide (b ≤ a ∧ a ≤ c)) := by
  unfold impl_within.f
  by_cases h : b ≤ a
  · rw [if_pos h]; congr 1; rw [Bool.eq_iff_iff]; simp only [decide_eq_true_eq]; omega
  · rw [if_neg h]; congr 1; symm; exact decide_eq_false (by omega)
theorem sin_f (a b c : Int) : spec_l00In.f a b c = some (decide (b ≤ a ∧ a ≤ c)) := by
  unfold spec_l00In.f
  by_cases h : a ≥ b
  · rw [if_pos h]; congr 1; rw [Bool.eq_iff_iff]; simp only [decide_eq_true_eq]; omega
  · rw [if_neg h]; congr 1; symm; exact decide_eq_false (by omega)
/-- within, as both tell it -/
def inB (a b c : Int) : Bool := decide (b ≤ a ∧ a ≤ c)
theorem win_calls (a b c : Int) (w : World) : Calls Try.prog 40 #[.int .i64 a, .int .i64 b, .int .i64 c] w fun e w' => e = .returned (.bool (inB a b c)) ∧ Drawn0 w w' := impl_within.calls a b c _ w (win_f a b c)
theorem sin_calls (a b c : Int) (w : World) : Calls Try.prog 38 #[.int .i64 a, .int .i64 b, .int .i64 c] w fun e w' => e = .returned (.bool (inB a b c)) ∧ Drawn0 w w' := spec_l00In.calls a b c _ w (sin_f a b c)
/-- an output that names no gate -/
def bad (n : Nat) (x : Int) : Bool := !inB (wrap64 x) 0 ((n : Int) - 1)
set_option maxHeartbeats 1000000 in
theorem predV_calls (n : Nat) (hn : n ≤ 600) (x : Int) (A : Option Addr) (c : Nat) (B : Nat) (W : World) (hc : W.cell? ⟨B, 1, none⟩ = some (.slice A n c)) :
    Calls Try.prog 65 #[.int .i16 x, .pointer (some ⟨B, 0, none⟩)] W fun e w' => e = .returned (.bool (bad n x)) ∧ Drawn0 W w' := by
  unfold bad
  have h1 : (n : Int) ≤ 600 := by omega
  clear hn
  go_enter Try.func65, Try.ntmps65
  go_wp2_with (go_at_call 40; (with_reducible refine (win_calls _ _ _ _).mono ?_); rintro e w' ⟨rfl, ⟨m, rfl⟩⟩)
  go_ret
  exact ⟨rfl, ⟨_, rfl⟩⟩
set_option maxHeartbeats 1000000 in
theorem indexV_calls (n0 : Nat) (hn0 : n0 ≤ 600) (A0 : Option Addr) (c0 : Nat) (l0 : List Int) (A : Option Addr) (c : Nat) (B : Nat) (w : World) (hr0 : Kd.C (Kd.int .i16) w A0 l0.length l0) (hc : w.cell? ⟨B, 1, none⟩ = some (.slice A n0 c)) :
    Calls Try.prog 83 #[.slice A0 l0.length c0, .func (.func 65) #[] #[.pointer (some ⟨B, 0, none⟩)]] w fun e w' => ∃ r : Int, e = .returned (.int .i64 r) ∧ decide (0 ≤ r) = l0.any (bad n0) ∧ Drawn0 w w' := by
  have HR := Lib.hid hr0
  have HP := Lib.hid (fun (x : Int) (m : Nat) => predV_calls n0 hn0 x A c B (w.drewN m) hc)
  clear hr0 hc hn0
  go_enter Try.func83, Try.ntmps83
  go_wp2
  go_loopg [8] l0.length (fun gg v8 wr => ∃ n : Nat, Hid (n ≤ l0.length) ∧ Hid (l0.length - n ≤ gg) ∧ v8 = .int .i64 (n : Int) ∧ Hid ((l0.take n).any (bad n0) = false) ∧ Drawn0 w wr)
  case atStart => exact ⟨0, Lib.hid (Nat.zero_le _), Lib.hid (Nat.sub_le _ _), rfl, Lib.hid (by simp), Drawn0.refl _⟩
  case round =>
    obtain ⟨n, hn, hg, rfl, ht, ⟨m0, rfl⟩⟩ := hrel
    by_cases hlt : n < l0.length
    · obtain ⟨ad, e, hx⟩ := Kd.at_int HR.out (n : Int) (by omega) (by omega)
      subst e
      rw [rd_nat, Int.toNat_natCast] at hx
      have hb0 : decide ((n : Int) < (l0.length : Int)) = true := decide_eq_true (by omega)
      have hb1 : (n : Int) < (l0.length : Int) := by omega
      have hlen : l0.length ≤ 9223372036854775807 := HR.out.2.1
      have hi0 : (0 : Int) ≤ (n : Int) := by omega
      have TS : Hid ((l0.take (n + 1)).any (bad n0) = ((l0.take n).any (bad n0) || bad n0 (l0.getD n 0))) := Lib.hid (by rw [List.take_add_one, List.any_append, List.getElem?_eq_getElem hlt]; simp [List.getD, hlt])
      have TW : Hid (bad n0 (l0.getD n 0) = true → l0.any (bad n0) = true) := Lib.hid (fun h => List.any_eq_true.2 ⟨_, by rw [List.getD_eq_getElem?_getD, List.getElem?_eq_getElem hlt]; exact List.getElem_mem hlt, h⟩)
      obtain ⟨x, ex⟩ : ∃ x : Int, l0.getD n 0 = x := ⟨_, rfl⟩
      rw [ex] at hx TS TW
      clear ex
      have HN := Lib.hid hlt
      have hnb : n < 9223372036854775807 := by omega
      have HC := Lib.hid (HP.out x m0)
      clear hlt hlen hn
      obtain ⟨v, hv⟩ : ∃ v, bad n0 x = v := ⟨_, rfl⟩
      rw [hv] at HC TS TW
      clear hv
      cases v with
      | true =>
        go_wp2_with (go_at_call 65; (with_reducible refine (HC.out).mono ?_); rintro e w' ⟨rfl, ⟨m, rfl⟩⟩)
        go_ret
        refine ⟨(n : Int), rfl, ?_, ⟨_, rfl⟩⟩
        rw [TW.out (by trivial)]; exact decide_eq_true hi0
      | false =>
        go_wp2_with (go_at_call 65; (with_reducible refine (HC.out).mono ?_); rintro e w' ⟨rfl, ⟨m, rfl⟩⟩)
        go_roundg (l0.length - (n + 1))
        case measure => have := hg.out; have := HN.out; omega
        case rel => exact ⟨n + 1, Lib.hid HN.out, Lib.hid (Nat.le_refl _), by first | rfl | go_num, Lib.hid (by rw [TS.out, ht.out]; rfl), by repeat (first | exact Drawn0.refl _ | exact ⟨_, rfl⟩ | apply Drawn0.step)⟩
    · have hb0 : decide ((n : Int) < (l0.length : Int)) = false := decide_eq_false (by omega)
      have hb1 : (l0.length : Int) ≤ (n : Int) := by omega
      have en : n = l0.length := by have := hn.out; omega
      have ht2 : Hid (l0.any (bad n0) = false) := Lib.hid (by have := ht.out; rw [en, List.take_length] at this; exact this)
      clear ht hn hlt en
      go_wp2
      go_ret
      refine ⟨-1, rfl, ?_, by repeat (first | exact Drawn0.refl _ | exact ⟨_, rfl⟩ | apply Drawn0.step)⟩
      rw [ht2.out]; rfl
set_option maxHeartbeats 1000000 in
theorem containsV_calls (n0 : Nat) (hn0 : n0 ≤ 600) (A0 : Option Addr) (c0 : Nat) (l0 : List Int) (A : Option Addr) (c : Nat) (B : Nat) (w : World) (hr0 : Kd.C (Kd.int .i16) w A0 l0.length l0) (hc : w.cell? ⟨B, 1, none⟩ = some (.slice A n0 c)) :
    Calls Try.prog 64 #[.slice A0 l0.length c0, .func (.func 65) #[] #[.pointer (some ⟨B, 0, none⟩)]] w fun e w' => e = .returned (.bool (l0.any (bad n0))) ∧ Drawn0 w w' := by
  have H := indexV_calls n0 hn0 A0 c0 l0 A c B w hr0 hc
  clear hr0 hc hn0
  go_enter Try.func64, Try.ntmps64
  go_wp2_with (go_at_call 83; refine H.mono ?_; rintro e w' ⟨r, rfl, hr, ⟨m, rfl⟩⟩)
  go_ret
  exact ⟨by rw [← hr]; rfl, ⟨_, rfl⟩⟩
/-- whether a gate may stand at a place -/
def gOk (inp : Int) (i : Int) (g : S96) : Bool := if g.f0 = 0 then (inB (wrap64 g.f1) 0 (inp - 1) && (wrap64 g.f2 == 0)) else if g.f0 = 1 then (wrap64 g.f1 == 0 && wrap64 g.f2 == 0) else ((g.f0 == 2 || g.f0 == 3) && (inB (wrap64 g.f1) 0 (i - 1) && inB (wrap64 g.f2) 0 (i - 1)))
theorem sgate_f (k : Nat) (inp i : Int) (g : S96) (h0 : 0 ≤ inp) (h1 : inp ≤ 16) (h2 : 0 ≤ i) (h3 : i ≤ 600) : spec_l07Gate.f (k + 1) g.f0 g.f1 g.f2 inp i = some (gOk inp i g) := by
  have w1 : wrap64 (inp - 1) = inp - 1 := by unfold wrap64; omega
  have w2 : wrap64 (i - 1) = i - 1 := by unfold wrap64; omega
  unfold spec_l07Gate.f gOk
  by_cases e0 : g.f0 = 0
  · rw [if_pos e0, if_pos e0, w1, sin_f, Option.bind_some]
    unfold inB
    cases decide (0 ≤ wrap64 g.f1 ∧ wrap64 g.f1 ≤ inp - 1) <;> simp
  · rw [if_neg e0, if_neg e0]
    by_cases e1 : g.f0 = 1
    · rw [if_pos e1, if_pos e1]
      by_cases e2 : wrap64 g.f1 = 0
      · rw [if_pos e2, e2]; simp
      · rw [if_neg e2, beq_eq_false_iff_ne.mpr e2]; simp
    · rw [if_neg e1, if_neg e1]
      by_cases e2 : g.f0 = 2
      · rw [if_pos e2, e2]
        simp only [spec_l07Gate.j0, beq_self_eq_true, if_true, w2, sin_f, Option.bind_some, Bool.true_or, Bool.true_and]
        unfold inB
        cases decide (0 ≤ wrap64 g.f1 ∧ wrap64 g.f1 ≤ i - 1) <;> simp
      · rw [if_neg e2, beq_eq_false_iff_ne.mpr e2, Bool.false_or]
        cases hv : (g.f0 == 3) with
        | true =>
          simp only [spec_l07Gate.j0, if_true, w2, sin_f, Option.bind_some, Bool.true_and]
          unfold inB
          cases decide (0 ≤ wrap64 g.f1 ∧ wrap64 g.f1 ≤ i - 1) <;> simp
        | false => simp [spec_l07Gate.j0]
theorem igate_f (a0 : Int) (l1 : List S96) (l2 : List Int) (i : Int) (g : S96) (h0 : 0 ≤ wrap64 a0) (h1 : wrap64 a0 ≤ 16) (h2 : 0 ≤ i) (h3 : i ≤ 600) : impl_Circuit_isGate.f a0 l1 l2 g.f0 g.f1 g.f2 i = some (gOk (wrap64 a0) i g) := by
  have w1 : wrap64 (wrap64 a0 - 1) = wrap64 a0 - 1 := by generalize wrap64 a0 = z at h0 h1 ⊢; unfold wrap64; omega
  have w2 : wrap64 (i - 1) = i - 1 := by unfold wrap64; omega
  unfold impl_Circuit_isGate.f gOk
  by_cases e0 : g.f0 = 0
  · rw [if_pos e0, if_pos e0, w1, win_f, Option.bind_some]
    unfold inB
    cases decide (0 ≤ wrap64 g.f1 ∧ wrap64 g.f1 ≤ wrap64 a0 - 1) <;> simp
  · rw [if_neg e0, if_neg e0]
    by_cases e1 : g.f0 = 1
    · rw [if_pos e1, if_pos e1]
      by_cases e2 : wrap64 g.f1 = 0
      · rw [if_pos e2, e2]; simp
      · rw [if_neg e2, beq_eq_false_iff_ne.mpr e2]; simp
    · rw [if_neg e1, if_neg e1]
      unfold impl_Gate_isPair.f
      by_cases e2 : g.f0 = 2
      · rw [if_pos e2, e2]
        simp only [beq_self_eq_true, if_true, w2, win_f, Option.bind_some, Bool.true_or, Bool.true_and]
        unfold inB
        cases decide (0 ≤ wrap64 g.f1 ∧ wrap64 g.f1 ≤ i - 1) <;> simp
      · rw [if_neg e2, beq_eq_false_iff_ne.mpr e2, Bool.false_or, Option.bind_some]
        cases hv : (g.f0 == 3) with
        | true =>
          simp only [if_true, w2, win_f, Option.bind_some, Bool.true_and]
          unfold inB
          cases decide (0 ≤ wrap64 g.f1 ∧ wrap64 g.f1 ≤ i - 1) <;> simp
        | false => simp
/-- the first so many gates may stand where they stand -/
def allG (inp : Int) (l : List S96) : Nat → Bool
  | 0 => true
  | n + 1 => allG inp l n && gOk inp (n : Int) (rd_T96 l (n : Int))
theorem allG_no {inp : Int} {l : List S96} {n m : Nat} (h : allG inp l n = false) (hm : n ≤ m) : allG inp l m = false := by
  induction m with
  | zero => have : n = 0 := by omega
            subst this; exact h
  | succ m ih =>
    by_cases e : n = m + 1
    · subst e; exact h
    · show (allG inp l m && _) = false
      rw [ih (by omega)]; rfl
def cOk (a0 : Int) (l1 : List S96) (l2 : List Int) : Bool := inB (wrap64 a0) 0 16 && (decide (l1.length ≤ 600) && (decide (l2.length ≤ 16) && (allG (wrap64 a0) l1 l1.length && !l2.any (bad l1.length))))
set_option maxHeartbeats 4000000 in
set_option maxRecDepth 100000 in
theorem l07Ok_calls (a0 : Int) (A1 A2 : Option Addr) (c1 c2 : Nat) (l1 : List S96) (l2 : List Int) (P : Nat) (w : World)
    (hP0 : w.cell? ⟨P, 0, none⟩ = some (.int .i8 a0)) (hP1 : w.cell? ⟨P, 1, none⟩ = some (.slice A1 l1.length c1)) (hP2 : w.cell? ⟨P, 2, none⟩ = some (.slice A2 l2.length c2))
    (r1 : Kd.C k96 w A1 l1.length l1) (r2 : Kd.C (Kd.int .i16) w A2 l2.length l2) (r : Bool) (hr : cOk a0 l1 l2 = r) :
    Calls Try.prog 62 #[.pointer (some ⟨P, 0, none⟩)] w fun e w' => e = .returned (.bool r) ∧ Below w.heap.size w w' := by
  have hPl : P < w.heap.size := World.block_lt_of_cell? w ⟨P, 0, none⟩ hP0
  have R1 := Lib.hid r1
  have R2 := Lib.hid r2
  have hm1 : l1.length ≤ 9223372036854775807 := r1.2.1
  have hm2 : l2.length ≤ 9223372036854775807 := r2.2.1
  have HI := Lib.hid (fun W => sin_calls (wrap64 a0) 0 16 W)
  clear r1 r2
  unfold cOk at hr
  obtain ⟨v0, e0⟩ : ∃ v, inB (wrap64 a0) 0 16 = v := ⟨_, rfl⟩
  rw [e0] at HI hr
  have E0 := Lib.hid e0
  clear e0
  cases v0 with
  | false =>
    have er : false = r := by rw [← hr]; rfl
    subst er
    clear hr
    go_enter Try.func62, Try.ntmps62
    go_wp2_with (go_at_call 38; (with_reducible refine (HI.out _).mono ?_); rintro e w' ⟨rfl, ⟨m, rfl⟩⟩)
    go_ret
    exact ⟨rfl, pw_below_drewN (Below.refl _ _) _⟩
  | true =>
    have EB : Hid (0 ≤ wrap64 a0 ∧ wrap64 a0 ≤ 16) := Lib.hid (of_decide_eq_true E0.out)
    by_cases g1 : l1.length ≤ 600
    · by_cases g2 : l2.length ≤ 16
      · have hr2 : Hid ((allG (wrap64 a0) l1 l1.length && !l2.any (bad l1.length)) = r) := Lib.hid (by rw [← hr, decide_eq_true g1, decide_eq_true g2]; rfl)
        have g1' : (l1.length : Int) ≤ 600 := by omega
        have g2' : (l2.length : Int) ≤ 16 := by omega
        have d1 : decide (600 < (l1.length : Int)) = false := decide_eq_false (by omega)
        have d2 : decide (16 < (l2.length : Int)) = false := decide_eq_false (by omega)
        clear hr
        go_enter Try.func62, Try.ntmps62
        go_wp2_with (go_at_call 38; (with_reducible refine (HI.out _).mono ?_); rintro e w' ⟨rfl, ⟨m, rfl⟩⟩)
        have HC0 := Lib.hid hP0
        have HC1 := Lib.hid hP1
        have HC2 := Lib.hid hP2
        have HPL := Lib.hid hPl
        have HG := Lib.hid (And.intro g1 g2)
        clear hP0 hP1 hP2 hPl g1 g2
        go_loopg [4] l1.length (fun gg v4 wr => ∃ n : Nat, Hid (n ≤ l1.length) ∧ Hid (l1.length - n ≤ gg) ∧ v4 = .int .i64 (n : Int) ∧ Hid (allG (wrap64 a0) l1 n = true) ∧ Hid (Below w.heap.size w wr))
        case atStart => exact ⟨0, Lib.hid (Nat.zero_le _), Lib.hid (Nat.sub_le _ _), rfl, Lib.hid rfl, Lib.hid (pw_below_drewN (Below.refl _ _) _)⟩
        case round =>
          obtain ⟨n, hn, hg, rfl, HA, HB⟩ := hrel
          have hP0 := (HB.out.cell HPL.out).trans HC0.out
          have hP1 := (HB.out.cell (p := ⟨P, 1, none⟩) HPL.out).trans HC1.out
          have hP2 := (HB.out.cell (p := ⟨P, 2, none⟩) HPL.out).trans HC2.out
          by_cases hlt : n < l1.length
          · obtain ⟨ad1, ea1, x0, x1, x2⟩ := at_T96 (Kd.C_below R1.out HB.out) (n : Int) (by omega) (by omega)
            cases ea1
            rw [Int.toNat_natCast] at x0 x1 x2
            have hb0 : decide ((n : Int) < (l1.length : Int)) = true := decide_eq_true (by omega)
            have hb1 : (n : Int) < (l1.length : Int) := by omega
            have hi0 : (0 : Int) ≤ (n : Int) := by omega
            have hnb : n < 9223372036854775807 := by omega
            have TS : Hid (allG (wrap64 a0) l1 (n + 1) = (allG (wrap64 a0) l1 n && gOk (wrap64 a0) (n : Int) (rd_T96 l1 (n : Int)))) := Lib.hid rfl
            have TW : Hid (allG (wrap64 a0) l1 (n + 1) = false → r = false) := Lib.hid (fun h => by rw [← hr2.out, allG_no h (by omega)]; rfl)
            have HCG := Lib.hid (fun W => spec_l07Gate.calls 1 (rd_T96 l1 (n : Int)).f0 (rd_T96 l1 (n : Int)).f1 (rd_T96 l1 (n : Int)).f2 (IntKind.i64.wrap a0) (n : Int) _ W (by rw [i64_w]; exact sgate_f 0 (wrap64 a0) (n : Int) (rd_T96 l1 (n : Int)) EB.out.1 EB.out.2 (by omega) (by have := HG.out.1; omega)))
            obtain ⟨v, hv⟩ : ∃ v, gOk (wrap64 a0) (n : Int) (rd_T96 l1 (n : Int)) = v := ⟨_, rfl⟩
            rw [hv] at TS HCG
            clear hv
            generalize (rd_T96 l1 (n : Int)).f0 = u0 at x0 HCG
            generalize (rd_T96 l1 (n : Int)).f1 = u1 at x1 HCG
            generalize (rd_T96 l1 (n : Int)).f2 = u2 at x2 HCG
            have HN := Lib.hid hlt
            clear hlt hn
            cases v with
            | false =>
              have er : r = false := TW.out (by rw [TS.out, Bool.and_false])
              subst er
              go_wp2_with fail
              go_region_held3 (fun w' => w'.cell? ⟨P, 0, none⟩ = some (.int .i8 a0) ∧ w'.cell? ⟨P, 1, none⟩ = some (.slice (some ad1) l1.length c1) ∧ w'.cell? (ad1.add (n * 3)) = some (.int .i8 u0) ∧ w'.cell? ⟨(ad1.add (n * 3)).block, (ad1.add (n * 3)).off + 1, none⟩ = some (.int .i16 u1) ∧ w'.cell? ⟨(ad1.add (n * 3)).block, (ad1.add (n * 3)).off + 2, none⟩ = some (.int .i16 u2)) (first | go_keep | exact ⟨pw_cell_below hb hP0, pw_cell_below hb hP1, pw_cell_below hb x0, pw_cell_below hb x1, pw_cell_below hb x2⟩)
                (first | (go_at_call 81; (with_reducible refine (HCG.out _).mono ?_); rintro e w' ⟨rfl, hb⟩))
              go_wp2
              go_ret
              exact ⟨rfl, below_step (below_drew HB.out) hb⟩
            | true =>
              have TO : Hid (allG (wrap64 a0) l1 (n + 1) = true) := Lib.hid (by rw [TS.out, HA.out]; rfl)
              go_wp2_with fail
              go_region_held3 (fun w' => w'.cell? ⟨P, 0, none⟩ = some (.int .i8 a0) ∧ w'.cell? ⟨P, 1, none⟩ = some (.slice (some ad1) l1.length c1) ∧ w'.cell? (ad1.add (n * 3)) = some (.int .i8 u0) ∧ w'.cell? ⟨(ad1.add (n * 3)).block, (ad1.add (n * 3)).off + 1, none⟩ = some (.int .i16 u1) ∧ w'.cell? ⟨(ad1.add (n * 3)).block, (ad1.add (n * 3)).off + 2, none⟩ = some (.int .i16 u2)) (first | go_keep | exact ⟨pw_cell_below hb hP0, pw_cell_below hb hP1, pw_cell_below hb x0, pw_cell_below hb x1, pw_cell_below hb x2⟩)
                (first | (go_at_call 81; (with_reducible refine (HCG.out _).mono ?_); rintro e w' ⟨rfl, hb⟩))
              go_wp2
              go_roundg (l1.length - (n + 1))
              case measure => have := hg.out; have := HN.out; omega
              case rel => exact ⟨n + 1, Lib.hid HN.out, Lib.hid (Nat.le_refl _), by first | rfl | go_num, TO, Lib.hid (below_step (below_drew HB.out) hb)⟩
          · have en : n = l1.length := by have := hn.out; omega
            subst en
            have hb0 : decide ((l1.length : Int) < (l1.length : Int)) = false := decide_eq_false (by omega)
            have HR2 : Hid ((!l2.any (bad l1.length)) = r) := Lib.hid (by have := hr2.out; rw [HA.out] at this; exact this)
            clear hr2 HA hn hg hlt
            go_wp2
            clear hP0 hP1 hP2
            go_loopg [5] l2.length (fun gg v5 wq => ∃ n : Nat, Hid (n ≤ l2.length) ∧ Hid (l2.length - n ≤ gg) ∧ v5 = .int .i64 (n : Int) ∧ Hid ((l2.take n).any (bad l1.length) = false) ∧ Hid (Below w.heap.size w wq))
            case atStart => exact ⟨0, Lib.hid (Nat.zero_le _), Lib.hid (Nat.sub_le _ _), rfl, Lib.hid (by simp), HB⟩
            case round =>
              clear HB hb0
              obtain ⟨n, hn, hg, rfl, HA, HB⟩ := hrel
              have hP2 := (HB.out.cell (p := ⟨P, 2, none⟩) HPL.out).trans HC2.out
              by_cases hlt : n < l2.length
              · obtain ⟨ad2, ea2, x0⟩ := Kd.at_int (Kd.C_below R2.out HB.out) (n : Int) (by omega) (by omega)
                cases ea2
                rw [rd_nat, Int.toNat_natCast] at x0
                have hb0 : decide ((n : Int) < (l2.length : Int)) = true := decide_eq_true (by omega)
                have hb1 : (n : Int) < (l2.length : Int) := by omega
                have hi0 : (0 : Int) ≤ (n : Int) := by omega
                have hnb : n < 9223372036854775807 := by omega
                have TS : Hid ((l2.take (n + 1)).any (bad l1.length) = ((l2.take n).any (bad l1.length) || bad l1.length (l2.getD n 0))) := Lib.hid (by rw [List.take_add_one, List.any_append, List.getElem?_eq_getElem hlt]; simp [List.getD, hlt])
                have TW : Hid (bad l1.length (l2.getD n 0) = true → l2.any (bad l1.length) = true) := Lib.hid (fun h => List.any_eq_true.2 ⟨_, by rw [List.getD_eq_getElem?_getD, List.getElem?_eq_getElem hlt]; exact List.getElem_mem hlt, h⟩)
                obtain ⟨x, ex⟩ : ∃ x : Int, l2.getD n 0 = x := ⟨_, rfl⟩
                rw [ex] at x0 TS TW
                clear ex
                have HN := Lib.hid hlt
                have HC := Lib.hid (fun W => sin_calls (wrap64 x) 0 ((l1.length : Int) - 1) W)
                have TB : Hid (bad l1.length x = !inB (wrap64 x) 0 ((l1.length : Int) - 1)) := Lib.hid rfl
                clear hlt hn
                obtain ⟨v, hv⟩ : ∃ v, inB (wrap64 x) 0 ((l1.length : Int) - 1) = v := ⟨_, rfl⟩
                rw [hv] at HC TB
                clear hv
                cases v with
                | false =>
                  have er : false = r := by rw [← HR2.out, TW.out (by rw [TB.out]; rfl)]; rfl
                  subst er
                  go_wp2_with (go_at_call 38; (with_reducible refine (HC.out _).mono ?_); rintro e w' ⟨rfl, ⟨m, rfl⟩⟩)
                  go_ret
                  exact ⟨rfl, pw_below_drewN HB.out _⟩
                | true =>
                  have TO : Hid ((l2.take (n + 1)).any (bad l1.length) = false) := Lib.hid (by rw [TS.out, HA.out, TB.out]; rfl)
                  go_wp2_with (go_at_call 38; (with_reducible refine (HC.out _).mono ?_); rintro e w' ⟨rfl, ⟨m, rfl⟩⟩)
                  go_roundg (l2.length - (n + 1))
                  case measure => have := hg.out; have := HN.out; omega
                  case rel => exact ⟨n + 1, Lib.hid HN.out, Lib.hid (Nat.le_refl _), by first | rfl | go_num, TO, Lib.hid (pw_below_drewN HB.out _)⟩
              · have en : n = l2.length := by have := hn.out; omega
                subst en
                have hb0 : decide ((l2.length : Int) < (l2.length : Int)) = false := decide_eq_false (by omega)
                have er : true = r := by have := HA.out; rw [List.take_length] at this; rw [← HR2.out, this]; rfl
                subst er
                clear HR2 HA hn hg hlt
                go_wp2
                go_ret
                exact ⟨rfl, HB.out⟩
      · have er : false = r := by rw [← hr, decide_eq_true g1, decide_eq_false g2]; rfl
        subst er
        have g1' : (l1.length : Int) ≤ 600 := by omega
        have g2' : (16 : Int) < (l2.length : Int) := by omega
        clear hr g1 g2
        go_enter Try.func62, Try.ntmps62
        go_wp2_with (go_at_call 38; (with_reducible refine (HI.out _).mono ?_); rintro e w' ⟨rfl, ⟨m, rfl⟩⟩)
        repeat (go_quiet (fail); try go_wp2)
        go_ret
        exact ⟨rfl, pw_below_drewN (Below.refl _ _) _⟩
    · have er : false = r := by rw [← hr, decide_eq_false g1]; rfl
      subst er
      have g1' : (600 : Int) < (l1.length : Int) := by omega
      clear hr g1
      go_enter Try.func62, Try.ntmps62
      go_wp2_with (go_at_call 38; (with_reducible refine (HI.out _).mono ?_); rintro e w' ⟨rfl, ⟨m, rfl⟩⟩)
      repeat (go_quiet (fail); try go_wp2)
      go_ret
      exact ⟨rfl, pw_below_drewN (Below.refl _ _) _⟩

end Go.Proofs.Ythjbeglmdifhdaa.Given
