/- Walks of functions that the print does not take. -/
import Derived.Test.YtkmpdnnifohifaaProg
import Derived.Below
import Derived.Deep.Draws
import Derived.Deep.AppendLies
import Derived.Maps.AppendAt
import Derived.OwnWalk
import Derived.Laws.BytesArg
import Derived.Laws.MakeOwn
import Derived.Laws.OwnMore
import Derived.Deep.OwnRows
import Derived.Tactics
import Derived.Lib.ConvBytes
import Derived.Laws.Slices
import Derived.WalkKit
import Derived.KernelRfl
import Derived.RowKit3
import Derived.Deep.LoopGhost
import Derived.Deep.QuietTactic
import Derived.BigQuiet
import Derived.WideLaws
import Derived.Deep.DeepCutAuto
import Derived.Deep.CutBlock
import Derived.Deep.RegionHeld3
import Derived.Laws.Rows
import Derived.Lib.AppendStr
import Derived.ArgAppend
import Derived.Laws.IdiomCopy
import Derived.OrdersHeld
import Derived.Laws.BitsLemmas
import Derived.RowKit
import Derived.Lib.Hide
import Derived.WalkSpells
import Derived.Test.YtkmpdnnifohifaaWWords
import Derived.Test.YtkmpdnnifohifaaWLast
import Derived.Test.YtkmpdnnifohifaaWTab
import Derived.Test.YtkmpdnnifohifaaWFour
import Derived.Test.YtkmpdnnifohifaaWQPut
import Derived.Test.YtkmpdnnifohifaaWApart
import Derived.Test.YtkmpdnnifohifaaWArr
import Derived.Test.YtkmpdnnifohifaaWZeros
import Derived.Test.YtkmpdnnifohifaaWFoot
import Derived.Test.YtkmpdnnifohifaaWKept
import Derived.Test.YtkmpdnnifohifaaWShare
import Derived.Test.YtkmpdnnifohifaaWN
import Derived.Test.YtkmpdnnifohifaaWFootNe
import Derived.Test.YtkmpdnnifohifaaWAt
import Derived.Test.YtkmpdnnifohifaaWEqStruct
import Derived.Test.YtkmpdnnifohifaaWRepsOne
import Derived.Test.YtkmpdnnifohifaaWInv
import Derived.Test.YtkmpdnnifohifaaWInvWords
import Derived.Test.YtkmpdnnifohifaaWGuard
import Derived.Test.YtkmpdnnifohifaaWNEv
import Derived.Test.YtkmpdnnifohifaaWMore
import Derived.Test.YtkmpdnnifohifaaN1
import Derived.Test.YtkmpdnnifohifaaC4
import Derived.Test.YtkmpdnnifohifaaRPTimesx1
namespace Go.Proofs.Ytkmpdnnifohifaa.Given
open Go.RowKit Go.Proofs.YtkmpdnnifohifaaW.PrintWords Go.Proofs.YtkmpdnnifohifaaW.PrintLast Go.Proofs.YtkmpdnnifohifaaW.PrintMore Go.Proofs.Ytkmpdnnifohifaa.NimF Go.Proofs.Ytkmpdnnifohifaa.NimGo
set_option linter.unusedVariables false
set_option linter.unusedSimpArgs false
open Go.Proofs.Ytkmpdnnifohifaa.RPTimes in
/-- the product of two polynomials, and a code, as the program tells them -/
def impl_TimesPoly.f (k : Nat) (l0 l1 : List Int) : Option (List Int × Int) := if l0.length ≤ 1048576 ∧ l1.length ≤ 1048576 then (if (vpol l0 && vpol l1) = true then (if 0 < l0.length ∧ 0 < l1.length ∧ 22 < l0.length + l1.length then some ([], 3) else (impl_Poly_times.f k l0 l1).bind fun x => some (x, 0)) else some ([], 1)) else none
open Go.Proofs.Ytkmpdnnifohifaa.RPTimes in
theorem impl_TimesPoly.mono : ∀ a0 a1 k, LeO (impl_TimesPoly.f k a0 a1) (impl_TimesPoly.f (k + 1) a0 a1) := by
  intro a0 a1 k
  unfold impl_TimesPoly.f
  refine LeO.ite ?_ (LeO.none _)
  refine LeO.ite ?_ (fun _ h => h)
  refine LeO.ite (fun _ h => h) ?_
  exact LeO.bind (impl_Poly_times.mono _ _ _) (fun _ _ h => h)
open Go.Proofs.Ytkmpdnnifohifaa.RPTimes in
set_option maxHeartbeats 1000000 in
theorem impl_TimesPoly.calls (k : Nat) (A0 : Option Addr) (c0 : Nat) (l0 : List Int) (A1 : Option Addr) (c1 : Nat) (l1 : List Int) (r1 : List Int) (r2 : Int) (w : World) (hr0 : Kd.C (Kd.int .u16) w A0 l0.length l0) (hc0 : l0.length ≤ c0) (hr1 : Kd.C (Kd.int .u16) w A1 l1.length l1) (hc1 : l1.length ≤ c1) (h : impl_TimesPoly.f k l0 l1 = some (r1, r2)) :
    Calls Try.prog 40 #[.slice A0 l0.length c0, .slice A1 l1.length c1] w fun e w' => ∃ v0_ : Value, e = .returned (.tuple #[v0_, .int .i64 r2]) ∧ Kd.R (Kd.int .u16) 36 w' w.heap.size (fun _ => True) v0_ r1 ∧ Below w.heap.size w w' := by
  unfold impl_TimesPoly.f at h
  by_cases hl : l0.length ≤ 1048576 ∧ l1.length ≤ 1048576
  · rw [if_pos hl] at h
    have HB : Hid (Below w.heap.size w (w.alloc (.cells #[.slice A0 l0.length c0, .slice A1 l1.length c1] 24))) := Lib.hid ((Below.refl _ w).alloc (Nat.le_refl _) _)
    have G0 : Kd.C (Kd.int .u16) (w.alloc (.cells #[.slice A0 l0.length c0, .slice A1 l1.length c1] 24)) A0 l0.length l0 := Kd.C_alloc hr0 _
    have G1 : Kd.C (Kd.int .u16) (w.alloc (.cells #[.slice A0 l0.length c0, .slice A1 l1.length c1] 24)) A1 l1.length l1 := Kd.C_alloc hr1 _
    obtain ⟨v0, e0⟩ : ∃ v, vpol l0 = v := ⟨_, rfl⟩
    obtain ⟨v1, e1⟩ : ∃ v, vpol l1 = v := ⟨_, rfl⟩
    have HV := Lib.hid (areValid_calls A0 c0 l0 A1 c1 l1 v0 v1 w.heap.size 2 _ G0 G1 e0 e1 (by simp) (by simp))
    rw [e0, e1] at h
    have b0 : l0.length ≤ 1048576 := hl.1
    have b1 : l1.length ≤ 1048576 := hl.2
    by_cases hv : (v0 && v1) = true
    · rw [if_pos hv] at h
      rw [hv] at HV
      by_cases h0 : 0 < l0.length
      · have g0 : (0 : Int) < (l0.length : Int) := by omega
        by_cases h1 : 0 < l1.length
        · have g1 : (0 : Int) < (l1.length : Int) := by omega
          have s1 : wrap64 ((l0.length : Int) + (l1.length : Int)) = ((l0.length + l1.length : Nat) : Int) := by unfold wrap64; omega
          have s2 : wrap64 ((l0.length : Int) + (l1.length : Int) - 2) = (l0.length : Int) + (l1.length : Int) - 2 := by unfold wrap64; omega
          by_cases h2 : 22 < l0.length + l1.length
          · rw [if_pos ⟨h0, h1, h2⟩] at h
            obtain ⟨rfl, rfl⟩ := Prod.mk.inj (Option.some.inj h)
            have g2 : (20 : Int) < (l0.length : Int) + (l1.length : Int) - 2 := by omega
            clear h hv e0 e1 G0 G1 hr0 hr1 hc0 hc1 hl h0 h1 h2
            go_enter Try.func40, Try.ntmps40
            go_wp2_with (go_at_call 51; refine HV.out.mono ?_; rintro e w' ⟨rfl, rfl⟩)
            go_ret2
            exact ⟨_, rfl, Kd.R_nil _ _ _ _ _, HB.out⟩
          · rw [if_neg (fun e => h2 e.2.2)] at h
            obtain ⟨x, hx, h⟩ := Option.bind_eq_some_iff.mp h
            obtain ⟨rfl, rfl⟩ := Prod.mk.inj (Option.some.inj h)
            have HP := Lib.hid (impl_Poly_times.calls k A0 c0 l0 A1 c1 l1 x _ G0 hc0 G1 hc1 hx)
            have g2 : (l0.length : Int) + (l1.length : Int) - 2 ≤ 20 := by omega
            clear h hx hv e0 e1 G0 G1 hr0 hr1 hc0 hc1 hl h0 h1 h2
            go_enter Try.func40, Try.ntmps40
            go_wp2_with (first | (go_at_call 51; refine HV.out.mono ?_; rintro e w' ⟨rfl, rfl⟩) | (go_at_call 64; refine HP.out.mono ?_; rintro e w' ⟨v, rfl, hv, hb⟩; have HR := Lib.hid (Kd.R_lower hv (Below.size HB.out)); have HB3 := Lib.hid (below_step HB.out hb); clear hv hb))
            go_ret2
            exact ⟨_, rfl, HR.out, HB3.out⟩
        · rw [if_neg (fun e => h1 e.2.1)] at h
          obtain ⟨x, hx, h⟩ := Option.bind_eq_some_iff.mp h
          obtain ⟨rfl, rfl⟩ := Prod.mk.inj (Option.some.inj h)
          have HP := Lib.hid (impl_Poly_times.calls k A0 c0 l0 A1 c1 l1 x _ G0 hc0 G1 hc1 hx)
          have g1 : (l1.length : Int) ≤ 0 := by omega
          clear h hx hv e0 e1 G0 G1 hr0 hr1 hc0 hc1 hl h0 h1
          go_enter Try.func40, Try.ntmps40
          go_wp2_with (first | (go_at_call 51; refine HV.out.mono ?_; rintro e w' ⟨rfl, rfl⟩) | (go_at_call 64; refine HP.out.mono ?_; rintro e w' ⟨v, rfl, hv, hb⟩; have HR := Lib.hid (Kd.R_lower hv (Below.size HB.out)); have HB3 := Lib.hid (below_step HB.out hb); clear hv hb))
          go_ret2
          exact ⟨_, rfl, HR.out, HB3.out⟩
      · rw [if_neg (fun e => h0 e.1)] at h
        obtain ⟨x, hx, h⟩ := Option.bind_eq_some_iff.mp h
        obtain ⟨rfl, rfl⟩ := Prod.mk.inj (Option.some.inj h)
        have HP := Lib.hid (impl_Poly_times.calls k A0 c0 l0 A1 c1 l1 x _ G0 hc0 G1 hc1 hx)
        have g0 : (l0.length : Int) ≤ 0 := by omega
        clear h hx hv e0 e1 G0 G1 hr0 hr1 hc0 hc1 hl h0
        go_enter Try.func40, Try.ntmps40
        go_wp2_with (first | (go_at_call 51; refine HV.out.mono ?_; rintro e w' ⟨rfl, rfl⟩) | (go_at_call 64; refine HP.out.mono ?_; rintro e w' ⟨v, rfl, hv, hb⟩; have HR := Lib.hid (Kd.R_lower hv (Below.size HB.out)); have HB3 := Lib.hid (below_step HB.out hb); clear hv hb))
        go_ret2
        exact ⟨_, rfl, HR.out, HB3.out⟩
    · rw [if_neg hv] at h
      obtain ⟨rfl, rfl⟩ := Prod.mk.inj (Option.some.inj h)
      rw [Bool.eq_false_iff.mpr hv] at HV
      clear h hv e0 e1 G0 G1 hr0 hr1 hc0 hc1 hl
      go_enter Try.func40, Try.ntmps40
      go_wp2_with (go_at_call 51; refine HV.out.mono ?_; rintro e w' ⟨rfl, rfl⟩)
      go_ret2
      exact ⟨_, rfl, Kd.R_nil _ _ _ _ _, HB.out⟩
  · rw [if_neg hl] at h
    exact absurd h (by simp)

end Go.Proofs.Ytkmpdnnifohifaa.Given
