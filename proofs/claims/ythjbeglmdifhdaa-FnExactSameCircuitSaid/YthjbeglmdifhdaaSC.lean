/- Walks of functions that the print does not take. -/
import Derived.Test.YthjbeglmdifhdaaProg
import Derived.Below
import Derived.Deep.Draws
import Derived.Deep.AppendLies
import Derived.Maps.AppendAt
import Derived.OwnWalk
import Derived.Laws.BytesArg
import Derived.Laws.MakeOwn
import Derived.Laws.OwnMore
import Derived.Deep.OwnRows
import Derived.Tactics
import Derived.Lib.ConvBytes
import Derived.Laws.Slices
import Derived.WalkKit
import Derived.KernelRfl
import Derived.RowKit3
import Derived.Deep.LoopGhost
import Derived.Deep.QuietTactic
import Derived.BigQuiet
import Derived.WideLaws
import Derived.Deep.DeepCutAuto
import Derived.Deep.CutBlock
import Derived.Deep.RegionHeld3
import Derived.Laws.Rows
import Derived.Lib.AppendStr
import Derived.ArgAppend
import Derived.Laws.IdiomCopy
import Derived.OrdersHeld
import Derived.Laws.BitsLemmas
import Derived.RowKit
import Derived.Lib.Hide
import Derived.WalkSpells
import Derived.Test.YthjbeglmdifhdaaWWords
import Derived.Test.YthjbeglmdifhdaaWLast
import Derived.Test.YthjbeglmdifhdaaWTab
import Derived.Test.YthjbeglmdifhdaaWFour
import Derived.Test.YthjbeglmdifhdaaWQPut
import Derived.Test.YthjbeglmdifhdaaWApart
import Derived.Test.YthjbeglmdifhdaaWArr
import Derived.Test.YthjbeglmdifhdaaWZeros
import Derived.Test.YthjbeglmdifhdaaWFoot
import Derived.Test.YthjbeglmdifhdaaWKept
import Derived.Test.YthjbeglmdifhdaaWShare
import Derived.Test.YthjbeglmdifhdaaWN
import Derived.Test.YthjbeglmdifhdaaWFootNe
import Derived.Test.YthjbeglmdifhdaaWAt
import Derived.Test.YthjbeglmdifhdaaWEqStruct
import Derived.Test.YthjbeglmdifhdaaWRepsOne
import Derived.Test.YthjbeglmdifhdaaWInv
import Derived.Test.YthjbeglmdifhdaaWInvWords
import Derived.Test.YthjbeglmdifhdaaWGuard
import Derived.Test.YthjbeglmdifhdaaWNEv
import Derived.Test.YthjbeglmdifhdaaWMore
import Derived.Test.YthjbeglmdifhdaaN1
import Derived.Test.YthjbeglmdifhdaaRFnExactSameCircuitx1
namespace Go.Proofs.Ythjbeglmdifhdaa.Given
open Go.RowKit Go.Proofs.YthjbeglmdifhdaaW.PrintWords Go.Proofs.YthjbeglmdifhdaaW.PrintLast Go.Proofs.YthjbeglmdifhdaaW.PrintMore Go.Proofs.Ythjbeglmdifhdaa.NimF Go.Proofs.Ythjbeglmdifhdaa.NimGo
set_option linter.unusedVariables false
set_option linter.unusedSimpArgs false
open Go.Proofs.Ythjbeglmdifhdaa.RFnExactSameCircuit
attribute [local go_sem high] eqA96
/-- two gates alike -/
def gEq (x y : S96) : Bool := x.f0 == y.f0 && (x.f1 == y.f1 && (x.f2 == y.f2))
/-- alike in the first so many -/
def gSame (l l' : List S96) : Nat → Bool
  | 0 => true
  | n + 1 => gSame l l' n && gEq (rd_T96 l (n : Int)) (rd_T96 l' (n : Int))
def oSame (l l' : List Int) : Nat → Bool
  | 0 => true
  | n + 1 => oSame l l' n && (rd l (n : Int) == rd l' (n : Int))
theorem gSame_no {l l' : List S96} {n m : Nat} (h : gSame l l' n = false) (hm : n ≤ m) : gSame l l' m = false := by
  induction m with
  | zero => have : n = 0 := by omega
            subst this; exact h
  | succ m ih =>
    by_cases e : n = m + 1
    · subst e; exact h
    · show (gSame l l' m && _) = false
      rw [ih (by omega)]; rfl
theorem oSame_no {l l' : List Int} {n m : Nat} (h : oSame l l' n = false) (hm : n ≤ m) : oSame l l' m = false := by
  induction m with
  | zero => have : n = 0 := by omega
            subst this; exact h
  | succ m ih =>
    by_cases e : n = m + 1
    · subst e; exact h
    · show (oSame l l' m && _) = false
      rw [ih (by omega)]; rfl
set_option maxHeartbeats 4000000 in
set_option maxRecDepth 100000 in
theorem l07Same_calls (a0 b0 : Int) (A1 A2 B1 B2 : Option Addr) (ca1 ca2 cb1 cb2 : Nat) (la1 lb1 : List S96) (la2 lb2 : List Int) (P Q : Nat) (w : World)
    (hP0 : w.cell? ⟨P, 0, none⟩ = some (.int .i8 a0)) (hP1 : w.cell? ⟨P, 1, none⟩ = some (.slice A1 la1.length ca1)) (hP2 : w.cell? ⟨P, 2, none⟩ = some (.slice A2 la2.length ca2))
    (hQ0 : w.cell? ⟨Q, 0, none⟩ = some (.int .i8 b0)) (hQ1 : w.cell? ⟨Q, 1, none⟩ = some (.slice B1 lb1.length cb1)) (hQ2 : w.cell? ⟨Q, 2, none⟩ = some (.slice B2 lb2.length cb2))
    (rA1 : Kd.C k96 w A1 la1.length la1) (rA2 : Kd.C (Kd.int .i16) w A2 la2.length la2) (rB1 : Kd.C k96 w B1 lb1.length lb1) (rB2 : Kd.C (Kd.int .i16) w B2 lb2.length lb2)
    (r : Bool) (hr : (a0 == b0 && (la1.length == lb1.length && (la2.length == lb2.length && (gSame la1 lb1 la1.length && oSame la2 lb2 la2.length)))) = r) :
    Calls Try.prog 55 #[.pointer (some ⟨P, 0, none⟩), .pointer (some ⟨Q, 0, none⟩)] w fun e w' => e = .returned (.bool r) ∧ Drawn0 w w' := by
  have RA1 := Lib.hid rA1
  have RA2 := Lib.hid rA2
  have RB1 := Lib.hid rB1
  have RB2 := Lib.hid rB2
  have hla1 : la1.length ≤ 9223372036854775807 := rA1.2.1
  have hla2 : la2.length ≤ 9223372036854775807 := rA2.2.1
  have hlb1 : lb1.length ≤ 9223372036854775807 := rB1.2.1
  have hlb2 : lb2.length ≤ 9223372036854775807 := rB2.2.1
  clear rA1 rA2 rB1 rB2
  by_cases e0 : a0 = b0
  · by_cases e1 : la1.length = lb1.length
    · by_cases e2 : la2.length = lb2.length
      · have HR : Hid ((gSame la1 lb1 la1.length && oSame la2 lb2 la2.length) = r) := Lib.hid (by rw [e0, e1, e2] at hr; simpa [e1, e2] using hr)
        have E1 := Lib.hid e1
        have E2 := Lib.hid e2
        have t0 : (a0 != b0) = false := by rw [e0]; simp
        have t1 : ((la1.length : Int) != (lb1.length : Int)) = false := by rw [e1]; simp
        have t2 : ((la2.length : Int) != (lb2.length : Int)) = false := by rw [e2]; simp
        have t0' : (a0 == b0) = true := by rw [e0]; simp
        have t1' : ((la1.length : Int) == (lb1.length : Int)) = true := by rw [e1]; simp
        have t2' : ((la2.length : Int) == (lb2.length : Int)) = true := by rw [e2]; simp
        have t1n : (la1.length == lb1.length) = true := by rw [e1]; simp
        have t2n : (la2.length == lb2.length) = true := by rw [e2]; simp
        clear e0 e1 e2 hr
        go_enter Try.func55, Try.ntmps55
        go_wp2
        repeat (go_quiet (fail); try go_wp2)
        go_loopg [5] la1.length (fun gg v5 wr => ∃ n : Nat, Hid (n ≤ la1.length) ∧ Hid (la1.length - n ≤ gg) ∧ v5 = .int .i64 (n : Int) ∧ Hid (gSame la1 lb1 n = true) ∧ Drawn0 w wr)
        case atStart => exact ⟨0, Lib.hid (Nat.zero_le _), Lib.hid (Nat.sub_le _ _), rfl, Lib.hid rfl, by repeat (first | exact Drawn0.refl _ | apply Drawn0.step)⟩
        case round =>
          obtain ⟨n, hn, hg, rfl, HG, ⟨m1, rfl⟩⟩ := hrel
          by_cases hlt : n < la1.length
          · have hlt2 : n < lb1.length := by have := E1.out; omega
            obtain ⟨ad1, ea1, x0, x1, x2⟩ := at_T96 RA1.out (n : Int) (by omega) (by omega)
            obtain ⟨ad2, eb1, y0, y1, y2⟩ := at_T96 RB1.out (n : Int) (by omega) (by omega)
            cases ea1
            cases eb1
            rw [Int.toNat_natCast] at x0 x1 x2 y0 y1 y2
            have hb0 : decide ((n : Int) < (la1.length : Int)) = true := decide_eq_true (by omega)
            have hb1 : (n : Int) < (la1.length : Int) := by omega
            have hb2 : (n : Int) < (lb1.length : Int) := by omega
            have hi0 : (0 : Int) ≤ (n : Int) := by omega
            have hnb : n < 9223372036854775807 := by omega
            have TS : Hid (gSame la1 lb1 (n + 1) = (gSame la1 lb1 n && gEq (rd_T96 la1 (n : Int)) (rd_T96 lb1 (n : Int)))) := Lib.hid rfl
            have TW : Hid (gSame la1 lb1 (n + 1) = false → r = false) := Lib.hid (fun h => by rw [← HR.out, gSame_no h (by omega)]; rfl)
            have TG : Hid (gEq (rd_T96 la1 (n : Int)) (rd_T96 lb1 (n : Int)) = ((rd_T96 la1 (n : Int)).f0 == (rd_T96 lb1 (n : Int)).f0 && ((rd_T96 la1 (n : Int)).f1 == (rd_T96 lb1 (n : Int)).f1 && ((rd_T96 la1 (n : Int)).f2 == (rd_T96 lb1 (n : Int)).f2)))) := Lib.hid rfl
            obtain ⟨u0, eu0⟩ : ∃ u, (rd_T96 la1 (n : Int)).f0 = u := ⟨_, rfl⟩
            obtain ⟨u1, eu1⟩ : ∃ u, (rd_T96 la1 (n : Int)).f1 = u := ⟨_, rfl⟩
            obtain ⟨u2, eu2⟩ : ∃ u, (rd_T96 la1 (n : Int)).f2 = u := ⟨_, rfl⟩
            obtain ⟨v0, ev0⟩ : ∃ u, (rd_T96 lb1 (n : Int)).f0 = u := ⟨_, rfl⟩
            obtain ⟨v1, ev1⟩ : ∃ u, (rd_T96 lb1 (n : Int)).f1 = u := ⟨_, rfl⟩
            obtain ⟨v2, ev2⟩ : ∃ u, (rd_T96 lb1 (n : Int)).f2 = u := ⟨_, rfl⟩
            rw [eu0] at x0 TG
            rw [eu1] at x1 TG
            rw [eu2] at x2 TG
            rw [ev0] at y0 TG
            rw [ev1] at y1 TG
            rw [ev2] at y2 TG
            clear eu0 eu1 eu2 ev0 ev1 ev2
            have HN := Lib.hid hlt
            clear hlt hlt2 hn
            obtain ⟨v, hv⟩ : ∃ v, (u0 == v0 && (u1 == v1 && (u2 == v2))) = v := ⟨_, rfl⟩
            cases v with
            | false =>
              have er : r = false := TW.out (by rw [TS.out, TG.out, hv, Bool.and_false])
              subst er
              have hv2 : (!(u0 == v0) || (!(u1 == v1) || !(u2 == v2))) = true := by rw [← Bool.not_and, ← Bool.not_and, hv]; rfl
              go_wp2
              repeat (go_quiet (fail); try go_wp2)
              go_ret
              exact ⟨rfl, by repeat (first | exact Drawn0.refl _ | apply Drawn0.step)⟩
            | true =>
              have TO : Hid (gSame la1 lb1 (n + 1) = true) := Lib.hid (by rw [TS.out, HG.out, TG.out, hv]; rfl)
              have hv2 : (!(u0 == v0) || (!(u1 == v1) || !(u2 == v2))) = false := by rw [← Bool.not_and, ← Bool.not_and, hv]; rfl
              go_wp2
              repeat (go_quiet (fail); try go_wp2)
              go_roundg (la1.length - (n + 1))
              case measure => have := hg.out; have := HN.out; omega
              case rel => exact ⟨n + 1, Lib.hid HN.out, Lib.hid (Nat.le_refl _), by first | rfl | go_num, TO, by repeat (first | exact Drawn0.refl _ | apply Drawn0.step)⟩
          · have en : n = la1.length := by have := hn.out; omega
            subst en
            have hb0 : decide ((la1.length : Int) < (la1.length : Int)) = false := decide_eq_false (by omega)
            have HR2 : Hid (oSame la2 lb2 la2.length = r) := Lib.hid (by have := HR.out; rw [HG.out] at this; exact this)
            clear HR HG hn hg hlt
            go_wp2
            repeat (go_quiet (fail); try go_wp2)
            go_loopg [6] la2.length (fun gg v6 wr => ∃ n : Nat, Hid (n ≤ la2.length) ∧ Hid (la2.length - n ≤ gg) ∧ v6 = .int .i64 (n : Int) ∧ Hid (oSame la2 lb2 n = true) ∧ Drawn0 w wr)
            case atStart => exact ⟨0, Lib.hid (Nat.zero_le _), Lib.hid (Nat.sub_le _ _), rfl, Lib.hid rfl, by repeat (first | exact Drawn0.refl _ | exact ⟨_, rfl⟩ | apply Drawn0.step)⟩
            case round =>
              clear hb0
              obtain ⟨n, hn, hg, rfl, HG, ⟨m2, rfl⟩⟩ := hrel
              by_cases hlt : n < la2.length
              · have hlt2 : n < lb2.length := by have := E2.out; omega
                obtain ⟨ad1, ea1, x0⟩ := Kd.at_int RA2.out (n : Int) (by omega) (by omega)
                obtain ⟨ad2, eb1, y0⟩ := Kd.at_int RB2.out (n : Int) (by omega) (by omega)
                cases ea1
                cases eb1
                rw [Int.toNat_natCast] at x0 y0
                have hb0 : decide ((n : Int) < (la2.length : Int)) = true := decide_eq_true (by omega)
                have hb1 : (n : Int) < (la2.length : Int) := by omega
                have hb2 : (n : Int) < (lb2.length : Int) := by omega
                have hi0 : (0 : Int) ≤ (n : Int) := by omega
                have hnb : n < 9223372036854775807 := by omega
                have TS : Hid (oSame la2 lb2 (n + 1) = (oSame la2 lb2 n && (rd la2 (n : Int) == rd lb2 (n : Int)))) := Lib.hid rfl
                have TW : Hid (oSame la2 lb2 (n + 1) = false → r = false) := Lib.hid (fun h => by rw [← HR2.out, oSame_no h (by omega)])
                obtain ⟨u0, eu0⟩ : ∃ u, rd la2 (n : Int) = u := ⟨_, rfl⟩
                obtain ⟨v0, ev0⟩ : ∃ u, rd lb2 (n : Int) = u := ⟨_, rfl⟩
                rw [eu0] at x0 TS
                rw [ev0] at y0 TS
                clear eu0 ev0
                have HN := Lib.hid hlt
                clear hlt hlt2 hn
                obtain ⟨v, hv⟩ : ∃ v, (u0 == v0) = v := ⟨_, rfl⟩
                cases v with
                | false =>
                  have er : r = false := TW.out (by rw [TS.out, hv, Bool.and_false])
                  subst er
                  have hv2 : (u0 != v0) = true := by rw [bne, hv]; rfl
                  go_wp2
                  repeat (go_quiet (fail); try go_wp2)
                  go_ret
                  exact ⟨rfl, by repeat (first | exact Drawn0.refl _ | exact ⟨_, rfl⟩ | apply Drawn0.step)⟩
                | true =>
                  have TO : Hid (oSame la2 lb2 (n + 1) = true) := Lib.hid (by rw [TS.out, HG.out, hv]; rfl)
                  have hv2 : (u0 != v0) = false := by rw [bne, hv]; rfl
                  go_wp2
                  repeat (go_quiet (fail); try go_wp2)
                  go_roundg (la2.length - (n + 1))
                  case measure => have := hg.out; have := HN.out; omega
                  case rel => exact ⟨n + 1, Lib.hid HN.out, Lib.hid (Nat.le_refl _), by first | rfl | go_num, TO, by repeat (first | exact Drawn0.refl _ | exact ⟨_, rfl⟩ | apply Drawn0.step)⟩
              · have en : n = la2.length := by have := hn.out; omega
                subst en
                have hb0 : decide ((la2.length : Int) < (la2.length : Int)) = false := decide_eq_false (by omega)
                have er : true = r := by rw [← HR2.out, HG.out]
                subst er
                clear HG hn hg hlt
                go_wp2
                repeat (go_quiet (fail); try go_wp2)
                go_ret
                exact ⟨rfl, by repeat (first | exact Drawn0.refl _ | exact ⟨_, rfl⟩ | apply Drawn0.step)⟩
      · have er : false = r := by rw [← hr, beq_eq_false_iff_ne.mpr e2]; simp
        subst er
        have t0 : (a0 != b0) = false := by rw [e0]; simp
        have t1 : ((la1.length : Int) != (lb1.length : Int)) = false := by rw [e1]; simp
        have t2 : ((la2.length : Int) != (lb2.length : Int)) = true := bne_iff_ne.mpr (by omega)
        have t0' : (a0 == b0) = true := by rw [e0]; simp
        have t1' : ((la1.length : Int) == (lb1.length : Int)) = true := by rw [e1]; simp
        have t2' : ((la2.length : Int) == (lb2.length : Int)) = false := beq_eq_false_iff_ne.mpr (by omega)
        have t1n : (la1.length == lb1.length) = true := by rw [e1]; simp
        have t2n : (la2.length == lb2.length) = false := beq_eq_false_iff_ne.mpr e2
        clear e0 e1 e2 hr
        go_enter Try.func55, Try.ntmps55
        go_wp2
        repeat (go_quiet (fail); try go_wp2)
        go_ret
        exact ⟨rfl, by repeat (first | exact Drawn0.refl _ | exact ⟨_, rfl⟩ | apply Drawn0.step)⟩
    · have er : false = r := by rw [← hr, beq_eq_false_iff_ne.mpr e1]; simp
      subst er
      have t0 : (a0 != b0) = false := by rw [e0]; simp
      have t1 : ((la1.length : Int) != (lb1.length : Int)) = true := bne_iff_ne.mpr (by omega)
      have t0' : (a0 == b0) = true := by rw [e0]; simp
      have t1' : ((la1.length : Int) == (lb1.length : Int)) = false := beq_eq_false_iff_ne.mpr (by omega)
      have t1n : (la1.length == lb1.length) = false := beq_eq_false_iff_ne.mpr e1
      clear e0 e1 hr
      go_enter Try.func55, Try.ntmps55
      go_wp2
      repeat (go_quiet (fail); try go_wp2)
      go_ret
      exact ⟨rfl, by repeat (first | exact Drawn0.refl _ | exact ⟨_, rfl⟩ | apply Drawn0.step)⟩
  · have er : false = r := by rw [← hr, beq_eq_false_iff_ne.mpr e0]; simp
    subst er
    have t0 : (a0 != b0) = true := bne_iff_ne.mpr e0
    have t0' : (a0 == b0) = false := beq_eq_false_iff_ne.mpr e0
    clear e0 hr
    go_enter Try.func55, Try.ntmps55
    go_wp2
    repeat (go_quiet (fail); try go_wp2)
    go_ret
    exact ⟨rfl, by repeat (first | exact Drawn0.refl _ | exact ⟨_, rfl⟩ | apply Drawn0.step)⟩
set_option maxHeartbeats 4000000 in
theorem specSame_calls (a0 b0 : Int) (A1 A2 B1 B2 : Option Addr) (ca1 ca2 cb1 cb2 : Nat) (la1 lb1 : List S96) (la2 lb2 : List Int) (w : World)
    (rA1 : Kd.C k96 w A1 la1.length la1) (rA2 : Kd.C (Kd.int .i16) w A2 la2.length la2) (rB1 : Kd.C k96 w B1 lb1.length lb1) (rB2 : Kd.C (Kd.int .i16) w B2 lb2.length lb2)
    (r : Bool) (hr : (a0 == b0 && (la1.length == lb1.length && (la2.length == lb2.length && (gSame la1 lb1 la1.length && oSame la2 lb2 la2.length)))) = r) :
    Calls Try.prog 28 #[.agg #[.int .i8 a0, .slice A1 la1.length ca1, .slice A2 la2.length ca2], .agg #[.int .i8 b0, .slice B1 lb1.length cb1, .slice B2 lb2.length cb2]] w fun e w' => e = .returned (.bool r) ∧ Below w.heap.size w w' := by
  have HB : Below w.heap.size w ((w.alloc (.cells #[.int .i8 a0, .slice A1 la1.length ca1, .slice A2 la2.length ca2] 63)).alloc (.cells #[.int .i8 b0, .slice B1 lb1.length cb1, .slice B2 lb2.length cb2] 63)) := ((Below.refl _ w).alloc (Nat.le_refl _) _).alloc (by simp) _
  have HC := Lib.hid (l07Same_calls a0 b0 A1 A2 B1 B2 ca1 ca2 cb1 cb2 la1 lb1 la2 lb2 w.heap.size (w.heap.size + 1) _ (by simp) (by simp) (by simp) (by simp) (by simp) (by simp)
    (Kd.C_below rA1 HB) (Kd.C_below rA2 HB) (Kd.C_below rB1 HB) (Kd.C_below rB2 HB) r hr)
  have HB2 := Lib.hid HB
  clear hr rA1 rA2 rB1 rB2 HB
  go_enter Try.func28, Try.ntmps28
  go_wp2_with (go_at_call 55; refine HC.out.mono ?_; rintro e w' ⟨rfl, ⟨m, rfl⟩⟩)
  go_ret
  exact ⟨rfl, pw_below_drewN HB2.out _⟩
/-- two circuits alike -/
def cSame (a0 : Int) (la1 : List S96) (la2 : List Int) (b0 : Int) (lb1 : List S96) (lb2 : List Int) : Bool := (a0 == b0 && (la1.length == lb1.length && (la2.length == lb2.length && (gSame la1 lb1 la1.length && oSame la2 lb2 la2.length))))
def spec_SameCircuit.f (a0 : Int) (la1 : List S96) (la2 : List Int) (b0 : Int) (lb1 : List S96) (lb2 : List Int) : Option Bool := some (cSame a0 la1 la2 b0 lb1 lb2)
theorem spec_SameCircuit.calls (a0 : Int) (A1 : Option Addr) (ca1 : Nat) (la1 : List S96) (A2 : Option Addr) (ca2 : Nat) (la2 : List Int) (b0 : Int) (B1 : Option Addr) (cb1 : Nat) (lb1 : List S96) (B2 : Option Addr) (cb2 : Nat) (lb2 : List Int) (r : Bool) (w : World)
    (rA1 : Kd.C k96 w A1 la1.length la1) (hA1 : la1.length ≤ ca1) (rA2 : Kd.C (Kd.int .i16) w A2 la2.length la2) (hA2 : la2.length ≤ ca2) (rB1 : Kd.C k96 w B1 lb1.length lb1) (hB1 : lb1.length ≤ cb1) (rB2 : Kd.C (Kd.int .i16) w B2 lb2.length lb2) (hB2 : lb2.length ≤ cb2)
    (h : spec_SameCircuit.f a0 la1 la2 b0 lb1 lb2 = some r) :
    Calls Try.prog 28 #[.agg #[.int .i8 a0, .slice A1 la1.length ca1, .slice A2 la2.length ca2], .agg #[.int .i8 b0, .slice B1 lb1.length cb1, .slice B2 lb2.length cb2]] w fun e w' => e = .returned (.bool r) ∧ Below w.heap.size w w' :=
  specSame_calls a0 b0 A1 A2 B1 B2 ca1 ca2 cb1 cb2 la1 lb1 la2 lb2 w rA1 rA2 rB1 rB2 r (Option.some.inj h)

end Go.Proofs.Ythjbeglmdifhdaa.Given
