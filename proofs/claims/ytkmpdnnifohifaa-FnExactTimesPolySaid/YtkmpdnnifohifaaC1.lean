/- Walks of functions that the print does not take. -/
import Derived.Test.YtkmpdnnifohifaaProg
import Derived.Below
import Derived.Deep.Draws
import Derived.Deep.AppendLies
import Derived.Maps.AppendAt
import Derived.OwnWalk
import Derived.Laws.BytesArg
import Derived.Laws.MakeOwn
import Derived.Laws.OwnMore
import Derived.Deep.OwnRows
import Derived.Tactics
import Derived.Lib.ConvBytes
import Derived.Laws.Slices
import Derived.WalkKit
import Derived.KernelRfl
import Derived.RowKit3
import Derived.Deep.LoopGhost
import Derived.Deep.QuietTactic
import Derived.BigQuiet
import Derived.WideLaws
import Derived.Deep.DeepCutAuto
import Derived.Deep.CutBlock
import Derived.Deep.RegionHeld3
import Derived.Laws.Rows
import Derived.Lib.AppendStr
import Derived.ArgAppend
import Derived.Laws.IdiomCopy
import Derived.OrdersHeld
import Derived.Laws.BitsLemmas
import Derived.RowKit
import Derived.Lib.Hide
import Derived.WalkSpells
import Derived.Test.YtkmpdnnifohifaaWWords
import Derived.Test.YtkmpdnnifohifaaWLast
import Derived.Test.YtkmpdnnifohifaaWTab
import Derived.Test.YtkmpdnnifohifaaWFour
import Derived.Test.YtkmpdnnifohifaaWQPut
import Derived.Test.YtkmpdnnifohifaaWApart
import Derived.Test.YtkmpdnnifohifaaWArr
import Derived.Test.YtkmpdnnifohifaaWZeros
import Derived.Test.YtkmpdnnifohifaaWFoot
import Derived.Test.YtkmpdnnifohifaaWKept
import Derived.Test.YtkmpdnnifohifaaWShare
import Derived.Test.YtkmpdnnifohifaaWN
import Derived.Test.YtkmpdnnifohifaaWFootNe
import Derived.Test.YtkmpdnnifohifaaWAt
import Derived.Test.YtkmpdnnifohifaaWEqStruct
import Derived.Test.YtkmpdnnifohifaaWRepsOne
import Derived.Test.YtkmpdnnifohifaaWInv
import Derived.Test.YtkmpdnnifohifaaWInvWords
import Derived.Test.YtkmpdnnifohifaaWGuard
import Derived.Test.YtkmpdnnifohifaaWNEv
import Derived.Test.YtkmpdnnifohifaaWMore
import Derived.Test.YtkmpdnnifohifaaN1
import Derived.Test.YtkmpdnnifohifaaC0
namespace Go.Proofs.Ytkmpdnnifohifaa.Given
open Go.RowKit Go.Proofs.YtkmpdnnifohifaaW.PrintWords Go.Proofs.YtkmpdnnifohifaaW.PrintLast Go.Proofs.YtkmpdnnifohifaaW.PrintMore Go.Proofs.Ytkmpdnnifohifaa.NimF Go.Proofs.Ytkmpdnnifohifaa.NimGo
set_option linter.unusedVariables false
set_option linter.unusedSimpArgs false
/-- how much of a list is left without the zeros at its end -/
def trimN (l : List Int) : Nat → Nat
  | 0 => 0
  | n + 1 => if l.getD n 0 = 0 then trimN l n else n + 1
theorem trimN_succ (l : List Int) (n : Nat) : trimN l (n + 1) = if l.getD n 0 = 0 then trimN l n else n + 1 := rfl
theorem trimN_le (l : List Int) : ∀ n, trimN l n ≤ n := by
  intro n
  induction n with
  | zero => exact Nat.le_refl _
  | succ n ih => unfold trimN; split <;> omega
def trimL (l : List Int) : List Int := l.take (trimN l l.length)
theorem trimL_length (l : List Int) : (trimL l).length = trimN l l.length := by
  unfold trimL; rw [List.length_take]; have := trimN_le l l.length; omega
/-- the start of a row that is read -/
theorem C_take {w : World} {A : Option Addr} {l : List Int} (h : Kd.C (Kd.int .u16) w A l.length l) (n : Nat) (hn : n ≤ l.length) : Kd.C (Kd.int .u16) w A (l.take n).length (l.take n) := by
  have hlen : (l.take n).length = n := by rw [List.length_take]; omega
  obtain ⟨h1, h2, h3⟩ := h
  refine ⟨rfl, by omega, fun h0 => ?_⟩
  obtain ⟨ad, e, hc⟩ := h3 (by omega)
  refine ⟨ad, e, fun j p hj => hc j p ?_⟩
  rw [List.getElem?_take] at hj
  by_cases hjn : j < n
  · rw [if_pos hjn] at hj; exact hj
  · rw [if_neg hjn] at hj; cases hj
theorem C_none_nil {w : World} {l : List Int} (h : Kd.C (Kd.int .u16) w none l.length l) : l = [] := by
  rcases Nat.eq_zero_or_pos l.length with e | e
  · exact List.eq_nil_of_length_eq_zero e
  · obtain ⟨ad, e, _⟩ := h.2.2 e
    cases e
set_option maxHeartbeats 1000000 in
set_option maxRecDepth 100000 in
theorem trim_calls (A0 : Option Addr) (c0 : Nat) (l0 r : List Int) (w : World) (hr0 : Kd.C (Kd.int .u16) w A0 l0.length l0) (hc0 : l0.length ≤ c0) (h : cloneL (trimL l0) = some r) :
    Calls Try.prog 42 #[.slice A0 l0.length c0] w fun e w' => ∃ v0_ : Value, e = .returned (v0_) ∧ Kd.R (Kd.int .u16) 36 w' w.heap.size (fun _ => True) v0_ r ∧ Below w.heap.size w w' := by
  have HR := Lib.hid hr0
  have HC := Lib.hid hc0
  have HH := Lib.hid h
  have hlen : l0.length ≤ 9223372036854775807 := hr0.2.1
  have HL := Lib.hid hlen
  clear hr0 hc0 h hlen
  go_enter Try.func42, Try.ntmps42
  go_wp2
  go_loop [3] (fun v3 => ∃ n : Nat, Hid (n ≤ l0.length) ∧ v3 = .int .i64 (n : Int) ∧ Hid (trimN l0 n = trimN l0 l0.length)) (fun v3 => (intOf v3).toNat)
  case atStart => exact ⟨l0.length, Lib.hid (Nat.le_refl _), rfl, Lib.hid rfl⟩
  case round =>
    obtain ⟨n, hn, rfl, ht⟩ := hrel
    cases n with
    | zero =>
      have hz : trimL l0 = [] := by unfold trimL; rw [← ht.out]; rfl
      have h0 : decide ((0 : Int) < 0) = false := by decide
      clear ht
      have HZ := Lib.hid hz
      clear hz hn
      go_wp2_with (fail)
      have hc := clone_calls A0 0 (trimL l0) r w (by rw [HZ.out]; exact C_take HR.out 0 (Nat.zero_le _)) (by rw [HZ.out]; exact Nat.le_refl _) HH.out
      rw [HZ.out] at hc
      refine Calls.mono hc ?_
      rintro e w' ⟨v, rfl, hv, hb⟩
      have HV := Lib.hid hv
      have HB := Lib.hid hb
      clear hc hv hb
      go_wp2
      go_ret
      exact ⟨_, rfl, HV.out, HB.out⟩
    | succ n =>
      obtain ⟨ad, e, hx⟩ := Kd.at_int HR.out (n : Int) (by omega) (by have := hn.out; omega)
      subst e
      rw [rd_nat, Int.toNat_natCast] at hx
      have hpos : decide ((0 : Int) < ((n + 1 : Nat) : Int)) = true := decide_eq_true (by omega)
      have hpos2 : (0 : Int) < ((n + 1 : Nat) : Int) := by omega
      have hnb : n < 9223372036854775807 := by have := hn.out; have := HL.out; omega
      have hi0 : (0 : Int) ≤ (n : Int) := by omega
      have hi1 : (n : Int) < (l0.length : Int) := by have := hn.out; omega
      obtain ⟨x, ex⟩ : ∃ x : Int, l0.getD n 0 = x := ⟨_, rfl⟩
      have TS := Lib.hid (trimN_succ l0 n)
      rw [ex] at hx TS
      clear ex
      by_cases hv : x = 0
      · have hb0 : (x == 0) = true := beq_iff_eq.mpr hv
        have ht2 : Hid (trimN l0 n = trimN l0 l0.length) := Lib.hid (by have := ht.out; rw [TS.out, if_pos hv] at this; exact this)
        clear ht hv
        have hn2 : Hid (n ≤ l0.length) := Lib.hid (by have := hn.out; omega)
        clear hn
        go_wp2
        go_round
        case rel => exact ⟨n, hn2, rfl, ht2⟩
        case measure => simp [intOf]
      · have hb0 : (x == 0) = false := beq_eq_false_iff_ne.mpr hv
        have ht2 : Hid (trimL l0 = l0.take (n + 1)) := Lib.hid (by have := ht.out; unfold trimL; rw [← this, TS.out, if_neg hv])
        clear ht hv
        have hnc : n + 1 ≤ c0 := by have := hn.out; have := HC.out; omega
        have hn2 : Hid (n + 1 ≤ l0.length) := Lib.hid hn.out
        clear hn
        go_wp2_with (fail)
        have hlt : (trimL l0).length = n + 1 := by rw [ht2.out, List.length_take]; have := hn2.out; omega
        have hc := clone_calls (some ad) (n + 1) (trimL l0) r w (by rw [ht2.out]; exact C_take HR.out (n + 1) hn2.out) (by rw [hlt]; exact Nat.le_refl _) HH.out
        rw [hlt] at hc
        refine Calls.mono hc ?_
        rintro e w' ⟨v, rfl, hv, hb⟩
        have HV := Lib.hid hv
        have HB := Lib.hid hb
        clear hc hv hb hlt
        go_wp2
        go_ret
        exact ⟨_, rfl, HV.out, HB.out⟩

end Go.Proofs.Ytkmpdnnifohifaa.Given
