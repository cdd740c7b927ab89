/- Walks of functions that the print does not take. -/
import Derived.Test.YtkmpdnnifohifaaProg
import Derived.Below
import Derived.Deep.Draws
import Derived.Deep.AppendLies
import Derived.Maps.AppendAt
import Derived.OwnWalk
import Derived.Laws.BytesArg
import Derived.Laws.MakeOwn
import Derived.Laws.OwnMore
import Derived.Deep.OwnRows
import Derived.Tactics
import Derived.Lib.ConvBytes
import Derived.Laws.Slices
import Derived.WalkKit
import Derived.KernelRfl
import Derived.RowKit3
import Derived.Deep.LoopGhost
import Derived.Deep.QuietTactic
import Derived.BigQuiet
import Derived.WideLaws
import Derived.Deep.DeepCutAuto
import Derived.Deep.CutBlock
import Derived.Deep.RegionHeld3
import Derived.Laws.Rows
import Derived.Lib.AppendStr
import Derived.ArgAppend
import Derived.Laws.IdiomCopy
import Derived.OrdersHeld
import Derived.Laws.BitsLemmas
import Derived.RowKit
import Derived.Lib.Hide
import Derived.WalkSpells
import Derived.Test.YtkmpdnnifohifaaWWords
import Derived.Test.YtkmpdnnifohifaaWLast
import Derived.Test.YtkmpdnnifohifaaWTab
import Derived.Test.YtkmpdnnifohifaaWFour
import Derived.Test.YtkmpdnnifohifaaWQPut
import Derived.Test.YtkmpdnnifohifaaWApart
import Derived.Test.YtkmpdnnifohifaaWArr
import Derived.Test.YtkmpdnnifohifaaWZeros
import Derived.Test.YtkmpdnnifohifaaWFoot
import Derived.Test.YtkmpdnnifohifaaWKept
import Derived.Test.YtkmpdnnifohifaaWShare
import Derived.Test.YtkmpdnnifohifaaWN
import Derived.Test.YtkmpdnnifohifaaWFootNe
import Derived.Test.YtkmpdnnifohifaaWAt
import Derived.Test.YtkmpdnnifohifaaWEqStruct
import Derived.Test.YtkmpdnnifohifaaWRepsOne
import Derived.Test.YtkmpdnnifohifaaWInv
import Derived.Test.YtkmpdnnifohifaaWInvWords
import Derived.Test.YtkmpdnnifohifaaWGuard
import Derived.Test.YtkmpdnnifohifaaWNEv
import Derived.Test.YtkmpdnnifohifaaWMore
import Derived.Test.YtkmpdnnifohifaaN1
import Derived.Test.YtkmpdnnifohifaaC1
namespace Go.Proofs.Ytkmpdnnifohifaa.Given
open Go.RowKit Go.Proofs.YtkmpdnnifohifaaW.PrintWords Go.Proofs.YtkmpdnnifohifaaW.PrintLast Go.Proofs.YtkmpdnnifohifaaW.PrintMore Go.Proofs.Ytkmpdnnifohifaa.NimF Go.Proofs.Ytkmpdnnifohifaa.NimGo
set_option linter.unusedVariables false
set_option linter.unusedSimpArgs false
/-- no more numbers than a polynomial may have, the last of them not 0 -/
def vpol (l : List Int) : Bool := l.length == 0 || (decide (l.length ≤ 21) && l.getD (l.length - 1) 0 != 0)
set_option maxHeartbeats 1000000 in
theorem vp_calls (A0 : Option Addr) (c0 : Nat) (l0 : List Int) (r : Bool) (w : World) (hr0 : Kd.C (Kd.int .u16) w A0 l0.length l0) (hh : vpol l0 = r) :
    Calls Try.prog 45 #[.slice A0 l0.length c0] w fun e w' => e = .returned (.bool r) ∧ w' = w := by
  unfold vpol at hh
  by_cases h21 : l0.length ≤ 21
  · by_cases h0 : l0.length = 0
    · have e : r = true := by rw [← hh, h0]; rfl
      subst e
      have g1 : (l0.length : Int) ≤ 21 := by omega
      have g0 : (l0.length : Int) = 0 := by omega
      have HX := Lib.hid h0
      clear hh hr0 h21 h0
      rw [HX.out] at g0 g1 ⊢
      go_enter Try.func45, Try.ntmps45
      go_wp2
      go_ret
      exact ⟨rfl, rfl⟩
    · obtain ⟨m, hm⟩ : ∃ m, l0.length = m + 1 := ⟨l0.length - 1, by omega⟩
      obtain ⟨ad, e, hx⟩ := Kd.at_int hr0 (m : Int) (by omega) (by omega)
      subst e
      rw [rd_nat, Int.toNat_natCast] at hx
      have e1 : (l0.length == 0) = false := beq_eq_false_iff_ne.mpr h0
      have e2 : l0.length - 1 = m := by omega
      rw [e1, decide_eq_true h21, e2] at hh
      obtain ⟨x, ex⟩ : ∃ x : Int, l0.getD m 0 = x := ⟨_, rfl⟩
      rw [ex] at hx hh
      rw [hm]
      have hnb : m < 9223372036854775807 := by omega
      have g1 : (m : Int) + 1 ≤ 21 := by omega
      have g2 : m + 1 ≤ 21 := by omega
      have HH : Hid ((x != 0) = r) := Lib.hid (by rw [← hh]; rfl)
      clear hh ex e1 e2 h0 h21 hr0 hm
      by_cases hz : x = 0
      · have hr : r = false := by rw [← HH.out, hz]; rfl
        subst hr hz
        go_enter Try.func45, Try.ntmps45
        go_wp2
        go_ret
        exact ⟨rfl, rfl⟩
      · have hr : r = true := by rw [← HH.out]; exact bne_iff_ne.mpr hz
        subst hr
        have hb : (x != 0) = true := bne_iff_ne.mpr hz
        have hb2 : (x == 0) = false := beq_eq_false_iff_ne.mpr hz
        go_enter Try.func45, Try.ntmps45
        go_wp2
        go_ret
        exact ⟨rfl, rfl⟩
  · have e : r = false := by
      have h0 : (l0.length == 0) = false := beq_eq_false_iff_ne.mpr (by omega)
      rw [← hh, h0, decide_eq_false h21]; rfl
    subst e
    have g1 : ¬ ((l0.length : Int) ≤ 21) := by omega
    have g2 : 21 < (l0.length : Int) := by omega
    clear hh h21 hr0
    go_enter Try.func45, Try.ntmps45
    go_wp2
    go_ret
    exact ⟨rfl, rfl⟩
set_option maxHeartbeats 1000000 in
theorem pred_calls (A0 : Option Addr) (c0 : Nat) (l0 : List Int) (r : Bool) (w : World) (hr0 : Kd.C (Kd.int .u16) w A0 l0.length l0) (hh : vpol l0 = r) :
    Calls Try.prog 70 #[.slice A0 l0.length c0] w fun e w' => e = .returned (.bool (!r)) ∧ w' = w := by
  have HX := Lib.hid (vp_calls A0 c0 l0 r w hr0 hh)
  clear hr0 hh
  go_enter Try.func70, Try.ntmps70
  go_wp2_with (go_at_call 45; refine HX.out.mono ?_; rintro e w' ⟨rfl, rfl⟩)
  go_ret
  exact ⟨rfl, rfl⟩
set_option maxHeartbeats 1000000 in
theorem index_calls (A0 : Option Addr) (c0 : Nat) (l0 : List Int) (A1 : Option Addr) (c1 : Nat) (l1 : List Int) (r0 r1 : Bool) (B : Nat) (cc : Nat) (w : World) (hr0 : Kd.C (Kd.int .u16) w A0 l0.length l0) (hr1 : Kd.C (Kd.int .u16) w A1 l1.length l1) (h0 : vpol l0 = r0) (h1 : vpol l1 = r1)
    (e0 : w.cell? ⟨B, 0, none⟩ = some (.slice A0 l0.length c0)) (e1 : w.cell? ⟨B, 1, none⟩ = some (.slice A1 l1.length c1)) :
    Calls Try.prog 73 #[.slice (some ⟨B, 0, none⟩) 2 cc, .func (.func 70) #[] #[]] w fun e w' => ∃ r : Int, e = .returned (.int .i64 r) ∧ decide (0 ≤ r) = !(r0 && r1) ∧ w' = w := by
  have H0 := Lib.hid (pred_calls A0 c0 l0 r0 w hr0 h0)
  have H1 := Lib.hid (pred_calls A1 c1 l1 r1 w hr1 h1)
  clear hr0 hr1 h0 h1
  go_enter Try.func73, Try.ntmps73
  go_wp2
  go_loop [5, 8] (fun _ v8 => v8 = .int .i64 0 ∨ (v8 = .int .i64 1 ∧ Hid (r0 = true)) ∨ (v8 = .int .i64 2 ∧ Hid (r0 = true ∧ r1 = true))) (fun _ v8 => 2 - (intOf v8).toNat)
  case atStart => exact .inl rfl
  case round =>
    rcases hrel with rfl | ⟨rfl, hk⟩ | ⟨rfl, hk⟩
    · cases r0 with
      | true =>
        go_wp2_with (go_at_call 70; refine H0.out.mono ?_; rintro e w' ⟨rfl, rfl⟩)
        go_round
        case rel => exact .inr (.inl ⟨rfl, Lib.hid trivial⟩)
        case measure => simp [intOf]
      | false =>
        go_wp2_with (go_at_call 70; refine H0.out.mono ?_; rintro e w' ⟨rfl, rfl⟩)
        go_ret
        exact ⟨0, rfl, rfl, rfl⟩
    · cases r1 with
      | true =>
        go_wp2_with (go_at_call 70; refine H1.out.mono ?_; rintro e w' ⟨rfl, rfl⟩)
        go_round
        case rel => exact .inr (.inr ⟨rfl, Lib.hid ⟨hk.out, trivial⟩⟩)
        case measure => simp [intOf]
      | false =>
        go_wp2_with (go_at_call 70; refine H1.out.mono ?_; rintro e w' ⟨rfl, rfl⟩)
        go_ret
        exact ⟨1, rfl, by rw [hk.out]; rfl, rfl⟩
    · go_wp2
      go_ret
      exact ⟨-1, rfl, by rw [hk.out.1, hk.out.2]; rfl, rfl⟩
set_option maxHeartbeats 1000000 in
theorem contains_calls (A0 : Option Addr) (c0 : Nat) (l0 : List Int) (A1 : Option Addr) (c1 : Nat) (l1 : List Int) (r0 r1 : Bool) (B : Nat) (cc : Nat) (w : World) (hr0 : Kd.C (Kd.int .u16) w A0 l0.length l0) (hr1 : Kd.C (Kd.int .u16) w A1 l1.length l1) (h0 : vpol l0 = r0) (h1 : vpol l1 = r1)
    (e0 : w.cell? ⟨B, 0, none⟩ = some (.slice A0 l0.length c0)) (e1 : w.cell? ⟨B, 1, none⟩ = some (.slice A1 l1.length c1)) :
    Calls Try.prog 69 #[.slice (some ⟨B, 0, none⟩) 2 cc, .func (.func 70) #[] #[]] w fun e w' => e = .returned (.bool (!(r0 && r1))) ∧ w' = w := by
  have H := Lib.hid (index_calls A0 c0 l0 A1 c1 l1 r0 r1 B cc w hr0 hr1 h0 h1 e0 e1)
  clear hr0 hr1 h0 h1 e0 e1
  go_enter Try.func69, Try.ntmps69
  go_wp2_with (go_at_call 73; refine H.out.mono ?_; rintro e w' ⟨r, rfl, hr, rfl⟩)
  go_ret
  exact ⟨by cases r0 <;> cases r1 <;> rfl, rfl⟩
set_option maxHeartbeats 1000000 in
theorem areValid_calls (A0 : Option Addr) (c0 : Nat) (l0 : List Int) (A1 : Option Addr) (c1 : Nat) (l1 : List Int) (r0 r1 : Bool) (B : Nat) (cc : Nat) (w : World) (hr0 : Kd.C (Kd.int .u16) w A0 l0.length l0) (hr1 : Kd.C (Kd.int .u16) w A1 l1.length l1) (h0 : vpol l0 = r0) (h1 : vpol l1 = r1)
    (e0 : w.cell? ⟨B, 0, none⟩ = some (.slice A0 l0.length c0)) (e1 : w.cell? ⟨B, 1, none⟩ = some (.slice A1 l1.length c1)) :
    Calls Try.prog 51 #[.slice (some ⟨B, 0, none⟩) 2 cc] w fun e w' => e = .returned (.bool (r0 && r1)) ∧ w' = w := by
  have H := Lib.hid (contains_calls A0 c0 l0 A1 c1 l1 r0 r1 B cc w hr0 hr1 h0 h1 e0 e1)
  clear hr0 hr1 h0 h1 e0 e1
  go_enter Try.func51, Try.ntmps51
  go_wp2_with (go_at_call 69; refine H.out.mono ?_; rintro e w' ⟨rfl, rfl⟩)
  go_ret
  exact ⟨by cases r0 <;> cases r1 <;> rfl, rfl⟩

end Go.Proofs.Ytkmpdnnifohifaa.Given
