/- Walks of functions that the print does not take. -/
import Derived.Test.YtabdpdnofljkcaaProg
import Derived.Below
import Derived.Deep.Draws
import Derived.Deep.AppendLies
import Derived.Maps.AppendAt
import Derived.OwnWalk
import Derived.Laws.BytesArg
import Derived.Laws.MakeOwn
import Derived.Laws.OwnMore
import Derived.Deep.OwnRows
import Derived.Tactics
import Derived.Lib.ConvBytes
import Derived.Laws.Slices
import Derived.WalkKit
import Derived.KernelRfl
import Derived.RowKit3
import Derived.Deep.LoopGhost
import Derived.Deep.QuietTactic
import Derived.BigQuiet
import Derived.WideLaws
import Derived.Deep.DeepCutAuto
import Derived.Deep.CutBlock
import Derived.Deep.RegionHeld3
import Derived.Laws.Rows
import Derived.Lib.AppendStr
import Derived.ArgAppend
import Derived.Laws.IdiomCopy
import Derived.OrdersHeld
import Derived.Laws.BitsLemmas
import Derived.RowKit
import Derived.Lib.Hide
import Derived.WalkSpells
import Derived.Test.YtabdpdnofljkcaaWWords
import Derived.Test.YtabdpdnofljkcaaWLast
import Derived.Test.YtabdpdnofljkcaaWTab
import Derived.Test.YtabdpdnofljkcaaWFour
import Derived.Test.YtabdpdnofljkcaaWQPut
import Derived.Test.YtabdpdnofljkcaaWApart
import Derived.Test.YtabdpdnofljkcaaWArr
import Derived.Test.YtabdpdnofljkcaaWZeros
import Derived.Test.YtabdpdnofljkcaaWFoot
import Derived.Test.YtabdpdnofljkcaaWKept
import Derived.Test.YtabdpdnofljkcaaWShare
import Derived.Test.YtabdpdnofljkcaaWN
import Derived.Test.YtabdpdnofljkcaaWFootNe
import Derived.Test.YtabdpdnofljkcaaWAt
import Derived.Test.YtabdpdnofljkcaaWEqStruct
import Derived.Test.YtabdpdnofljkcaaWRepsOne
import Derived.Test.YtabdpdnofljkcaaWInv
import Derived.Test.YtabdpdnofljkcaaWInvWords
import Derived.Test.YtabdpdnofljkcaaWGuard
import Derived.Test.YtabdpdnofljkcaaWNEv
import Derived.Test.YtabdpdnofljkcaaWMore
import Derived.Test.YtabdpdnofljkcaaN1
namespace Go.Proofs.Ytabdpdnofljkcaa.Given
open Go.RowKit Go.Proofs.YtabdpdnofljkcaaW.PrintWords Go.Proofs.YtabdpdnofljkcaaW.PrintLast Go.Proofs.YtabdpdnofljkcaaW.PrintMore Go.Proofs.Ytabdpdnofljkcaa.NimF Go.Proofs.Ytabdpdnofljkcaa.NimGo
set_option linter.unusedVariables false
set_option linter.unusedSimpArgs false
/-- is a number of the base or more -/
def over (b : Int) (x : Int) : Bool := decide (b ≤ wrap64 x)
set_option maxHeartbeats 1000000 in
theorem pred_calls (b : Int) (B : Nat) (x : Int) (W : World) (hc : W.cell? ⟨B, 0, none⟩ = some (.int .i64 b)) :
    Calls Try.prog 64 #[.int .u16 x, .pointer (some ⟨B, 0, none⟩)] W fun e w' => e = .returned (.bool (over b x)) ∧ w' = W := by
  unfold over
  go_enter Try.func64, Try.ntmps64
  go_wp2
  all_goals (go_ret; exact ⟨by simp_all [i64_w], rfl⟩)
set_option maxHeartbeats 1000000 in
theorem index_calls (A0 : Option Addr) (c0 : Nat) (l0 : List Int) (b : Int) (B : Nat) (w : World) (hr0 : Kd.C (Kd.int .u16) w A0 l0.length l0) (hc : w.cell? ⟨B, 0, none⟩ = some (.int .i64 b)) :
    Calls Try.prog 66 #[.slice A0 l0.length c0, .func (.func 64) #[] #[.pointer (some ⟨B, 0, none⟩)]] w fun e w' => ∃ r : Int, e = .returned (.int .i64 r) ∧ decide (0 ≤ r) = l0.any (over b) ∧ w' = w := by
  have HR := Lib.hid hr0
  have HC := Lib.hid hc
  clear hr0 hc
  go_enter Try.func66, Try.ntmps66
  go_wp2
  go_loop [5, 8] (fun _ v8 => ∃ n : Nat, Hid (n ≤ l0.length) ∧ v8 = .int .i64 (n : Int) ∧ Hid ((l0.take n).any (over b) = false)) (fun _ v8 => l0.length - (intOf v8).toNat)
  case atStart => exact ⟨0, Lib.hid (Nat.zero_le _), rfl, Lib.hid (by simp)⟩
  case round =>
    obtain ⟨n, hn, rfl, ht⟩ := hrel
    by_cases hlt : n < l0.length
    · obtain ⟨ad, e, hx⟩ := Kd.at_int HR.out (n : Int) (by omega) (by omega)
      subst e
      rw [rd_nat, Int.toNat_natCast] at hx
      have hb0 : decide ((n : Int) < (l0.length : Int)) = true := decide_eq_true (by omega)
      have hb1 : (n : Int) < (l0.length : Int) := by omega
      have hlen : l0.length ≤ 9223372036854775807 := HR.out.2.1
      have hi0 : (0 : Int) ≤ (n : Int) := by omega
      have TS : Hid ((l0.take (n + 1)).any (over b) = ((l0.take n).any (over b) || over b (l0.getD n 0))) := Lib.hid (by rw [List.take_add_one, List.any_append, List.getElem?_eq_getElem hlt]; simp [List.getD, hlt])
      have TW : Hid (over b (l0.getD n 0) = true → l0.any (over b) = true) := Lib.hid (fun h => List.any_eq_true.2 ⟨_, by rw [List.getD_eq_getElem?_getD, List.getElem?_eq_getElem hlt]; exact List.getElem_mem hlt, h⟩)
      obtain ⟨x, ex⟩ : ∃ x : Int, l0.getD n 0 = x := ⟨_, rfl⟩
      rw [ex] at hx TS TW
      clear ex
      have HN := Lib.hid hlt
      have HL := Lib.hid hlen
      have hnb : n < 9223372036854775807 := by omega
      clear hlt hlen
      cases hv : over b x with
      | true =>
        have hcall := pred_calls b B x w HC.out
        rw [hv] at hcall
        go_wp2_with (go_at_call 64; refine hcall.mono ?_; rintro e w' ⟨rfl, rfl⟩)
        go_ret
        refine ⟨(n : Int), rfl, ?_, rfl⟩
        rw [TW.out hv]; exact decide_eq_true hi0
      | false =>
        have hcall := pred_calls b B x w HC.out
        rw [hv] at hcall
        go_wp2_with (go_at_call 64; refine hcall.mono ?_; rintro e w' ⟨rfl, rfl⟩)
        go_round
        case rel => exact ⟨n + 1, Lib.hid HN.out, by first | rfl | go_num, Lib.hid (by rw [TS.out, ht.out, hv]; rfl)⟩
        case measure => simp [intOf]; have := HN.out; omega
    · have hb0 : decide ((n : Int) < (l0.length : Int)) = false := decide_eq_false (by omega)
      have hb1 : (l0.length : Int) ≤ (n : Int) := by omega
      have en : n = l0.length := by have := hn.out; omega
      have ht2 : Hid (l0.any (over b) = false) := Lib.hid (by have := ht.out; rw [en, List.take_length] at this; exact this)
      clear ht hn hlt en
      go_wp2
      go_ret
      refine ⟨-1, rfl, ?_, rfl⟩
      rw [ht2.out]; rfl
set_option maxHeartbeats 1000000 in
theorem contains_calls (A0 : Option Addr) (c0 : Nat) (l0 : List Int) (b : Int) (B : Nat) (w : World) (hr0 : Kd.C (Kd.int .u16) w A0 l0.length l0) (hc : w.cell? ⟨B, 0, none⟩ = some (.int .i64 b)) :
    Calls Try.prog 63 #[.slice A0 l0.length c0, .func (.func 64) #[] #[.pointer (some ⟨B, 0, none⟩)]] w fun e w' => e = .returned (.bool (l0.any (over b))) ∧ w' = w := by
  have H := index_calls A0 c0 l0 b B w hr0 hc
  clear hr0 hc
  go_enter Try.func63, Try.ntmps63
  go_wp2_with (go_at_call 66; refine H.mono ?_; rintro e w' ⟨r, rfl, hr, rfl⟩)
  go_ret
  exact ⟨by rw [← hr]; rfl, rfl⟩
set_option maxHeartbeats 1000000 in
theorem within_yes (a b c : Int) (w : World) (h1 : b ≤ a) (h2 : a ≤ c) : Calls Try.prog 42 #[.int .i64 a, .int .i64 b, .int .i64 c] w fun e w' => e = .returned (.bool true) ∧ w' = w := by
  go_enter Try.func42, Try.ntmps42
  go_wp2
  go_ret
  exact ⟨rfl, rfl⟩
set_option maxHeartbeats 1000000 in
theorem isFor_calls (A0 : Option Addr) (c0 : Nat) (l0 : List Int) (b : Int) (w : World) (hr0 : Kd.C (Kd.int .u16) w A0 l0.length l0) (r : Bool) (hh : (decide (1 ≤ l0.length ∧ l0.length ≤ 7) && !l0.any (over b)) = r) :
    Calls Try.prog 60 #[.slice A0 l0.length c0, .int .i64 b] w fun e w' => e = .returned (.bool r) ∧ Below w.heap.size w w' := by
  have hlen : l0.length ≤ 9223372036854775807 := hr0.2.1
  have hcon := contains_calls A0 c0 l0 b w.heap.size (w.alloc (.cells #[.int .i64 b] 2)) (Kd.C_alloc hr0 _) (by simp)
  have HX := Lib.hid hcon
  have HH := Lib.hid hh
  clear hr0 hcon hh
  by_cases h1 : 1 ≤ l0.length
  · have g1 : (1 : Int) ≤ (l0.length : Int) := by omega
    by_cases h7 : l0.length ≤ 7
    · have g7 : (l0.length : Int) ≤ 7 := by omega
      have E : Hid (r = !l0.any (over b)) := Lib.hid (by rw [← HH.out, decide_eq_true ⟨h1, h7⟩]; rfl)
      clear h1 h7
      go_enter Try.func60, Try.ntmps60
      go_wp2_with (first | (go_at_call 63; refine HX.out.mono ?_; rintro e w' ⟨rfl, rfl⟩) | (go_at_call 42; refine (within_yes _ _ _ _ g1 g7).mono ?_; rintro e w' ⟨rfl, rfl⟩))
      go_ret
      exact ⟨by rw [E.out]; rfl, (Below.refl _ w).alloc (Nat.le_refl _) _⟩
    · have g7 : (7 : Int) < (l0.length : Int) := by omega
      have E : Hid (r = false) := Lib.hid (by rw [← HH.out, decide_eq_false (fun h => h7 h.2)]; rfl)
      clear h1 h7
      go_enter Try.func60, Try.ntmps60
      go_wp2
      go_ret
      exact ⟨by rw [E.out]; rfl, (Below.refl _ w).alloc (Nat.le_refl _) _⟩
  · have g1 : (l0.length : Int) < 1 := by omega
    have E : Hid (r = false) := Lib.hid (by rw [← HH.out, decide_eq_false (fun h => h1 h.1)]; rfl)
    clear h1
    go_enter Try.func60, Try.ntmps60
    go_wp2
    go_ret
    exact ⟨by rw [E.out]; rfl, (Below.refl _ w).alloc (Nat.le_refl _) _⟩

/-- a word of the length and with the numbers that a base lets in -/
def impl_Word_isFor.f (l0 : List Int) (a1 : Int) : Option (Bool) := some (decide (1 ≤ l0.length ∧ l0.length ≤ 7) && !l0.any (over a1))
theorem impl_Word_isFor.calls (A0 : Option Addr) (c0 : Nat) (l0 : List Int) (a1 : Int) (r : Bool) (w : World) (hr0 : Kd.C (Kd.int .u16) w A0 l0.length l0) (hc0 : l0.length ≤ c0) (h : impl_Word_isFor.f l0 a1 = some r) :
    Calls Try.prog 60 #[.slice A0 l0.length c0, .int .i64 a1] w fun e w' => e = .returned (.bool r) ∧ Below w.heap.size w w' :=
  isFor_calls A0 c0 l0 a1 w hr0 r (Option.some.inj h)

end Go.Proofs.Ytabdpdnofljkcaa.Given
