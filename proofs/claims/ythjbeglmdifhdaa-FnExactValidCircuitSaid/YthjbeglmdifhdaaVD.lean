/- Walks of functions that the print does not take. -/
import Derived.Test.YthjbeglmdifhdaaProg
import Derived.Below
import Derived.Deep.Draws
import Derived.Deep.AppendLies
import Derived.Maps.AppendAt
import Derived.OwnWalk
import Derived.Laws.BytesArg
import Derived.Laws.MakeOwn
import Derived.Laws.OwnMore
import Derived.Deep.OwnRows
import Derived.Tactics
import Derived.Lib.ConvBytes
import Derived.Laws.Slices
import Derived.WalkKit
import Derived.KernelRfl
import Derived.RowKit3
import Derived.Deep.LoopGhost
import Derived.Deep.QuietTactic
import Derived.BigQuiet
import Derived.WideLaws
import Derived.Deep.DeepCutAuto
import Derived.Deep.CutBlock
import Derived.Deep.RegionHeld3
import Derived.Laws.Rows
import Derived.Lib.AppendStr
import Derived.ArgAppend
import Derived.Laws.IdiomCopy
import Derived.OrdersHeld
import Derived.Laws.BitsLemmas
import Derived.RowKit
import Derived.Lib.Hide
import Derived.WalkSpells
import Derived.Test.YthjbeglmdifhdaaWWords
import Derived.Test.YthjbeglmdifhdaaWLast
import Derived.Test.YthjbeglmdifhdaaWTab
import Derived.Test.YthjbeglmdifhdaaWFour
import Derived.Test.YthjbeglmdifhdaaWQPut
import Derived.Test.YthjbeglmdifhdaaWApart
import Derived.Test.YthjbeglmdifhdaaWArr
import Derived.Test.YthjbeglmdifhdaaWZeros
import Derived.Test.YthjbeglmdifhdaaWFoot
import Derived.Test.YthjbeglmdifhdaaWKept
import Derived.Test.YthjbeglmdifhdaaWShare
import Derived.Test.YthjbeglmdifhdaaWN
import Derived.Test.YthjbeglmdifhdaaWFootNe
import Derived.Test.YthjbeglmdifhdaaWAt
import Derived.Test.YthjbeglmdifhdaaWEqStruct
import Derived.Test.YthjbeglmdifhdaaWRepsOne
import Derived.Test.YthjbeglmdifhdaaWInv
import Derived.Test.YthjbeglmdifhdaaWInvWords
import Derived.Test.YthjbeglmdifhdaaWGuard
import Derived.Test.YthjbeglmdifhdaaWNEv
import Derived.Test.YthjbeglmdifhdaaWMore
import Derived.Test.YthjbeglmdifhdaaN1
import Derived.Test.YthjbeglmdifhdaaVC
namespace Go.Proofs.Ythjbeglmdifhdaa.Given
open Go.RowKit Go.Proofs.YthjbeglmdifhdaaW.PrintWords Go.Proofs.YthjbeglmdifhdaaW.PrintLast Go.Proofs.YthjbeglmdifhdaaW.PrintMore Go.Proofs.Ythjbeglmdifhdaa.NimF Go.Proofs.Ythjbeglmdifhdaa.NimGo
set_option linter.unusedVariables false
set_option linter.unusedSimpArgs false
open Go.Proofs.Ythjbeglmdifhdaa.PFnExactValidCircuit
set_option maxHeartbeats 2000000 in
theorem specValid_calls (a0 : Int) (A1 A2 : Option Addr) (c1 c2 : Nat) (l1 : List S96) (l2 : List Int) (w : World)
    (r1 : Kd.C k96 w A1 l1.length l1) (r2 : Kd.C (Kd.int .i16) w A2 l2.length l2) :
    Calls Try.prog 32 #[.agg #[.int .i8 a0, .slice A1 l1.length c1, .slice A2 l2.length c2]] w fun e w' => e = .returned (.bool (cOk a0 l1 l2)) ∧ Below w.heap.size w w' := by
  have HB : Below w.heap.size w (w.alloc (.cells #[.int .i8 a0, .slice A1 l1.length c1, .slice A2 l2.length c2] 63)) := (Below.refl _ w).alloc (Nat.le_refl _) _
  have HC := Lib.hid (l07Ok_calls a0 A1 A2 c1 c2 l1 l2 w.heap.size _ (by simp) (by simp) (by simp) (Kd.C_below r1 HB) (Kd.C_below r2 HB) _ rfl)
  have HB2 := Lib.hid HB
  clear r1 r2 HB
  generalize cOk a0 l1 l2 = r at HC ⊢
  go_enter Try.func32, Try.ntmps32
  go_wp2_with (go_at_call 62; (with_reducible refine HC.out.mono ?_); rintro e w' ⟨rfl, hb⟩)
  go_ret
  exact ⟨rfl, below_step HB2.out hb⟩
set_option maxHeartbeats 4000000 in
set_option maxRecDepth 100000 in
theorem implValid_calls (a0 : Int) (A1 A2 : Option Addr) (c1 c2 : Nat) (l1 : List S96) (l2 : List Int) (w : World) (hc1 : l1.length ≤ c1) (hc2 : l2.length ≤ c2)
    (r1 : Kd.C k96 w A1 l1.length l1) (r2 : Kd.C (Kd.int .i16) w A2 l2.length l2) (r : Bool) (hr : cOk a0 l1 l2 = r) :
    Calls Try.prog 33 #[.agg #[.int .i8 a0, .slice A1 l1.length c1, .slice A2 l2.length c2]] w fun e w' => e = .returned (.bool r) ∧ Below w.heap.size w w' := by
  have R1 := Lib.hid r1
  have R2 := Lib.hid r2
  have hm1 : l1.length ≤ 9223372036854775807 := r1.2.1
  have hm2 : l2.length ≤ 9223372036854775807 := r2.2.1
  have HI := Lib.hid (fun W => win_calls (wrap64 a0) 0 16 W)
  clear r1 r2
  unfold cOk at hr
  obtain ⟨v0, e0⟩ : ∃ v, inB (wrap64 a0) 0 16 = v := ⟨_, rfl⟩
  rw [e0] at HI hr
  have E0 := Lib.hid e0
  clear e0
  cases v0 with
  | false =>
    have er : false = r := by rw [← hr]; rfl
    subst er
    clear hr
    go_enter Try.func33, Try.ntmps33
    go_wp2_with (go_at_call 40; (with_reducible refine (HI.out _).mono ?_); rintro e w' ⟨rfl, ⟨m, rfl⟩⟩)
    repeat (go_quiet (fail); try go_wp2)
    go_ret
    exact ⟨rfl, pw_below_drewN ((Below.refl _ w).alloc (Nat.le_refl _) _) _⟩
  | true =>
    have EB : Hid (0 ≤ wrap64 a0 ∧ wrap64 a0 ≤ 16) := Lib.hid (of_decide_eq_true E0.out)
    by_cases g1 : l1.length ≤ 600
    · by_cases g2 : l2.length ≤ 16
      · have hr2 : Hid ((allG (wrap64 a0) l1 l1.length && !l2.any (bad l1.length)) = r) := Lib.hid (by rw [← hr, decide_eq_true g1, decide_eq_true g2]; rfl)
        have g1' : (l1.length : Int) ≤ 600 := by omega
        have g2' : (l2.length : Int) ≤ 16 := by omega
        have d1 : decide (600 < (l1.length : Int)) = false := decide_eq_false (by omega)
        have d2 : decide (16 < (l2.length : Int)) = false := decide_eq_false (by omega)
        clear hr
        go_enter Try.func33, Try.ntmps33
        go_wp2_with (go_at_call 40; (with_reducible refine (HI.out _).mono ?_); rintro e w' ⟨rfl, ⟨m, rfl⟩⟩)
        repeat (go_quiet (fail); try go_wp2)
        have B0 : Hid (((w.alloc (.cells #[.int .i8 a0, .slice A1 l1.length c1, .slice A2 l2.length c2] 63)).drewN m).heap[w.heap.size]? = some (.cells #[.int .i8 a0, .slice A1 l1.length c1, .slice A2 l2.length c2] 63 (0, 0))) := Lib.hid (blk_drewN (blk_new w _) m)
        have HB0 : Hid (Below w.heap.size w ((w.alloc (.cells #[.int .i8 a0, .slice A1 l1.length c1, .slice A2 l2.length c2] 63)).drewN m)) := Lib.hid (pw_below_drewN ((Below.refl _ w).alloc (Nat.le_refl _) _) _)
        have HG := Lib.hid (And.intro g1 g2)
        have HCC := Lib.hid (And.intro hc1 hc2)
        clear g1 g2 hc1 hc2
        go_loopg [25] l1.length (fun gg v4 wr => ∃ n : Nat, Hid (n ≤ l1.length) ∧ Hid (l1.length - n ≤ gg) ∧ v4 = .int .i64 (n : Int) ∧ Hid (allG (wrap64 a0) l1 n = true) ∧ Hid (wr.heap[w.heap.size]? = some (.cells #[.int .i8 a0, .slice A1 l1.length c1, .slice A2 l2.length c2] 63 (0, 0))) ∧ Hid (Below w.heap.size w wr))
        case atStart => exact ⟨0, Lib.hid (Nat.zero_le _), Lib.hid (Nat.sub_le _ _), rfl, Lib.hid rfl, B0, HB0⟩
        case round =>
          clear B0 HB0
          obtain ⟨n, hn, hg, rfl, HA, B0, HB⟩ := hrel
          have hP0 : wr.cell? ⟨w.heap.size, 0, none⟩ = some (.int .i8 a0) := (blk_cell B0.out 0).trans rfl
          have hP1 : wr.cell? ⟨w.heap.size, 1, none⟩ = some (.slice A1 l1.length c1) := (blk_cell B0.out 1).trans rfl
          have hP2 : wr.cell? ⟨w.heap.size, 2, none⟩ = some (.slice A2 l2.length c2) := (blk_cell B0.out 2).trans rfl
          have hlt0 : w.heap.size < wr.heap.size := blk_lt B0.out
          have hne0 : w.heap.size ≠ wr.heap.size := Nat.ne_of_lt hlt0
          by_cases hlt : n < l1.length
          · obtain ⟨ad1, ea1, x0, x1, x2⟩ := at_T96 (Kd.C_below R1.out HB.out) (n : Int) (by omega) (by omega)
            have HCG := Lib.hid (fun o => impl_Circuit_isGate.calls a0 A1 c1 l1 A2 c2 l2 (rd_T96 l1 (n : Int)).f0 (rd_T96 l1 (n : Int)).f1 (rd_T96 l1 (n : Int)).f2 (n : Int) _ (wr.alloc o) (Kd.C_alloc (Kd.C_below R1.out HB.out) o) HCC.out.1 (Kd.C_alloc (Kd.C_below R2.out HB.out) o) HCC.out.2 (igate_f a0 l1 l2 (n : Int) (rd_T96 l1 (n : Int)) EB.out.1 EB.out.2 (by omega) (by have := HG.out.1; omega)))
            cases ea1
            rw [Int.toNat_natCast] at x0 x1 x2
            have hb0 : decide ((n : Int) < (l1.length : Int)) = true := decide_eq_true (by omega)
            have hb1 : (n : Int) < (l1.length : Int) := by omega
            have hi0 : (0 : Int) ≤ (n : Int) := by omega
            have hnb : n < 9223372036854775807 := by omega
            have TS : Hid (allG (wrap64 a0) l1 (n + 1) = (allG (wrap64 a0) l1 n && gOk (wrap64 a0) (n : Int) (rd_T96 l1 (n : Int)))) := Lib.hid rfl
            have TW : Hid (allG (wrap64 a0) l1 (n + 1) = false → r = false) := Lib.hid (fun h => by rw [← hr2.out, allG_no h (by omega)]; rfl)
            obtain ⟨v, hv⟩ : ∃ v, gOk (wrap64 a0) (n : Int) (rd_T96 l1 (n : Int)) = v := ⟨_, rfl⟩
            rw [hv] at TS HCG
            clear hv
            generalize (rd_T96 l1 (n : Int)).f0 = u0 at x0 HCG
            generalize (rd_T96 l1 (n : Int)).f1 = u1 at x1 HCG
            generalize (rd_T96 l1 (n : Int)).f2 = u2 at x2 HCG
            have HN := Lib.hid hlt
            clear hlt hn
            cases v with
            | false =>
              have er : r = false := TW.out (by rw [TS.out, Bool.and_false])
              subst er
              go_wp2_with (go_at_call 63; (with_reducible refine (HCG.out _).mono ?_); rintro e w' ⟨rfl, hb⟩)
              go_ret
              exact ⟨rfl, below_step (below_alloc HB.out _) hb⟩
            | true =>
              have TO : Hid (allG (wrap64 a0) l1 (n + 1) = true) := Lib.hid (by rw [TS.out, HA.out]; rfl)
              go_wp2_with (go_at_call 63; (with_reducible refine (HCG.out _).mono ?_); rintro e w' ⟨rfl, hb⟩)
              go_roundg (l1.length - (n + 1))
              case measure => have := hg.out; have := HN.out; omega
              case rel => exact ⟨n + 1, Lib.hid HN.out, Lib.hid (Nat.le_refl _), by first | rfl | go_num, TO, Lib.hid (blk_below (blk_alloc B0.out _) hb), Lib.hid (below_step (below_alloc HB.out _) hb)⟩
          · have en : n = l1.length := by have := hn.out; omega
            subst en
            have hb0 : decide ((l1.length : Int) < (l1.length : Int)) = false := decide_eq_false (by omega)
            have HR2 : Hid ((!l2.any (bad l1.length)) = r) := Lib.hid (by have := hr2.out; rw [HA.out] at this; exact this)
            have HCV := Lib.hid (containsV_calls l1.length HG.out.1 A2 c2 l2 A1 c1 w.heap.size wr (Kd.C_below R2.out HB.out) hP1)
            clear hr2 HA hn hg hlt
            go_wp2_with (go_at_call 64; (with_reducible refine (HCV.out).mono ?_); rintro e w' ⟨rfl, ⟨m1, rfl⟩⟩)
            go_ret
            exact ⟨HR2.out ▸ rfl, pw_below_drewN HB.out _⟩
      · have er : false = r := by rw [← hr, decide_eq_true g1, decide_eq_false g2]; rfl
        subst er
        have g1' : (l1.length : Int) ≤ 600 := by omega
        have g2' : (16 : Int) < (l2.length : Int) := by omega
        clear hr g1 g2
        go_enter Try.func33, Try.ntmps33
        go_wp2_with (go_at_call 40; (with_reducible refine (HI.out _).mono ?_); rintro e w' ⟨rfl, ⟨m, rfl⟩⟩)
        repeat (go_quiet (fail); try go_wp2)
        go_ret
        exact ⟨rfl, pw_below_drewN ((Below.refl _ w).alloc (Nat.le_refl _) _) _⟩
    · have er : false = r := by rw [← hr, decide_eq_false g1]; rfl
      subst er
      have g1' : (600 : Int) < (l1.length : Int) := by omega
      clear hr g1
      go_enter Try.func33, Try.ntmps33
      go_wp2_with (go_at_call 40; (with_reducible refine (HI.out _).mono ?_); rintro e w' ⟨rfl, ⟨m, rfl⟩⟩)
      repeat (go_quiet (fail); try go_wp2)
      go_ret
      exact ⟨rfl, pw_below_drewN ((Below.refl _ w).alloc (Nat.le_refl _) _) _⟩

end Go.Proofs.Ythjbeglmdifhdaa.Given
