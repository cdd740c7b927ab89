/- Walks of functions that the print does not take. -/
import Derived.Test.YthjbeglmdifhdaaProg
import Derived.Below
import Derived.Deep.Draws
import Derived.Deep.AppendLies
import Derived.Maps.AppendAt
import Derived.OwnWalk
import Derived.Laws.BytesArg
import Derived.Laws.MakeOwn
import Derived.Laws.OwnMore
import Derived.Deep.OwnRows
import Derived.Tactics
import Derived.Lib.ConvBytes
import Derived.Laws.Slices
import Derived.WalkKit
import Derived.KernelRfl
import Derived.RowKit3
import Derived.Deep.LoopGhost
import Derived.Deep.QuietTactic
import Derived.BigQuiet
import Derived.WideLaws
import Derived.Deep.DeepCutAuto
import Derived.Deep.CutBlock
import Derived.Deep.RegionHeld3
import Derived.Laws.Rows
import Derived.Lib.AppendStr
import Derived.ArgAppend
import Derived.Laws.IdiomCopy
import Derived.OrdersHeld
import Derived.Laws.BitsLemmas
import Derived.RowKit
import Derived.Lib.Hide
import Derived.WalkSpells
import Derived.Test.YthjbeglmdifhdaaWWords
import Derived.Test.YthjbeglmdifhdaaWLast
import Derived.Test.YthjbeglmdifhdaaWTab
import Derived.Test.YthjbeglmdifhdaaWFour
import Derived.Test.YthjbeglmdifhdaaWQPut
import Derived.Test.YthjbeglmdifhdaaWApart
import Derived.Test.YthjbeglmdifhdaaWArr
import Derived.Test.YthjbeglmdifhdaaWZeros
import Derived.Test.YthjbeglmdifhdaaWFoot
import Derived.Test.YthjbeglmdifhdaaWKept
import Derived.Test.YthjbeglmdifhdaaWShare
import Derived.Test.YthjbeglmdifhdaaWN
import Derived.Test.YthjbeglmdifhdaaWFootNe
import Derived.Test.YthjbeglmdifhdaaWAt
import Derived.Test.YthjbeglmdifhdaaWEqStruct
import Derived.Test.YthjbeglmdifhdaaWRepsOne
import Derived.Test.YthjbeglmdifhdaaWInv
import Derived.Test.YthjbeglmdifhdaaWInvWords
import Derived.Test.YthjbeglmdifhdaaWGuard
import Derived.Test.YthjbeglmdifhdaaWNEv
import Derived.Test.YthjbeglmdifhdaaWMore
import Derived.Test.YthjbeglmdifhdaaN1
import Derived.Test.YthjbeglmdifhdaaMC
namespace Go.Proofs.Ythjbeglmdifhdaa.Given
open Go.RowKit Go.Proofs.YthjbeglmdifhdaaW.PrintWords Go.Proofs.YthjbeglmdifhdaaW.PrintLast Go.Proofs.YthjbeglmdifhdaaW.PrintMore Go.Proofs.Ythjbeglmdifhdaa.NimF Go.Proofs.Ythjbeglmdifhdaa.NimGo
set_option linter.unusedVariables false
set_option linter.unusedSimpArgs false
def okVL (N : Nat) (l : List Int) : Nat → Bool
  | 0 => true
  | k + 1 => okVL N l k && !(decide (N ≤ k) && (l.getD k 0 != 0))
theorem okVL_no {N : Nat} {l : List Int} {n m : Nat} (h : okVL N l n = false) (hm : n ≤ m) : okVL N l m = false := by
  induction m with
  | zero => have : n = 0 := by omega
            subst this; exact h
  | succ m ih =>
    by_cases e : n = m + 1
    · subst e; exact h
    · show (okVL N l m && _) = false
      rw [ih (by omega)]; rfl
theorem okVL_start {N : Nat} {l : List Int} {k : Nat} (h : k ≤ N) : okVL N l k = true := by
  induction k with
  | zero => rfl
  | succ k ih =>
    show (okVL N l k && !(decide (N ≤ k) && _)) = true
    rw [ih (by omega), decide_eq_false (by omega)]; rfl

set_option maxHeartbeats 4000000 in
set_option maxRecDepth 100000 in
theorem l02Vec_calls (N : Nat) (hN : N ≤ 6) (l : List Int) (hl : l.length = 6) (ga : Nat) (w : World) (hB : Blk w ga 46 (U l)) (r_ : Bool) (hr : okVL N l 6 = r_) :
    Calls Try.prog 47 #[.pointer (some ⟨ga, 0, none⟩), .int .i8 (N : Int)] w fun e w' => e = .returned (.bool r_) ∧ Below w.heap.size w w' := by
  have HL := Lib.hid hl
  have HR := Lib.hid hr
  have BKa := Lib.hid hB
  have HB := Lib.hid (Below.refl w.heap.size w)
  have HN0 := Lib.hid hN
  have n1 : (0 : Int) ≤ (N : Int) := by omega
  have n2 : (N : Int) ≤ 6 := by omega
  clear hl hr hB hN
  go_enter Try.func47, Try.ntmps47
  go_wp2
  go_loopg [5] 6 (fun gg v4 wq => ∃ k : Nat, Hid (k ≤ 6) ∧ Hid (6 - k ≤ gg) ∧ v4 = .int .i64 (k : Int) ∧ Hid (okVL N l k = true) ∧ Hid (Blk wq ga 46 (U l)) ∧ Hid (Below w.heap.size w wq) ∧ Hid (N ≤ k))
  case atStart => exact ⟨N, HN0, Lib.hid (Nat.sub_le _ _), rfl, Lib.hid (okVL_start (Nat.le_refl _)), BKa, HB, Lib.hid (Nat.le_refl _)⟩
  case round =>
    clear BKa HB
    obtain ⟨k, hn, hg, rfl, HA, BKa, HB, HK⟩ := hrel
    by_cases hlt : k < 6
    · have hx := (BKa.out.cell k).trans (U_get (by rw [HL.out]; exact hlt))
      have TS : Hid (okVL N l (k + 1) = (okVL N l k && !(decide (N ≤ k) && (l.getD k 0 != 0)))) := Lib.hid rfl
      have HRf : Hid (okVL N l (k + 1) = false → r_ = false) := Lib.hid (fun h => by rw [← HR.out, okVL_no h (by omega)])
      generalize l.getD k 0 = x at hx TS
      have dA : decide (N ≤ k) = true := decide_eq_true HK.out
      have kb0 : decide ((k : Int) < 6) = true := decide_eq_true (by omega)
      have kb1 : (k : Int) < 6 := by omega
      have ki0 : (0 : Int) ≤ (k : Int) := by omega
      have kib : k < 9223372036854775807 := by omega
      have HN := Lib.hid hlt
      clear hlt hn
      by_cases hX : x = 0
      · have eX : (x == 0) = true := beq_iff_eq.mpr hX
        have nX : (x != 0) = false := by rw [bne, eX]; rfl
        have TO := Lib.hid (TS.out.trans (by rw [HA.out, nX, Bool.and_false]; rfl : _ = true))
        clear hX
        go_wp2
        go_roundg (6 - (k + 1))
        case measure => have := hg.out; have := HN.out; omega
        case rel => exact ⟨k + 1, Lib.hid HN.out, Lib.hid (Nat.le_refl _), by first | rfl | go_num, TO, BKa, HB, Lib.hid (Nat.le_succ_of_le HK.out)⟩
      · have eX : (x == 0) = false := beq_eq_false_iff_ne.mpr hX
        have nX : (x != 0) = true := by rw [bne, eX]; rfl
        have TO := Lib.hid (TS.out.trans (by rw [nX, dA, Bool.true_and, Bool.not_true, Bool.and_false] : _ = false))
        clear hX
        have er : r_ = false := HRf.out TO.out
        subst er
        go_wp2
        go_ret
        exact ⟨rfl, HB.out⟩
    · have en : k = 6 := by have := hn.out; omega
      subst en
      have er : true = r_ := by rw [← HR.out]; exact HA.out.symm
      subst er
      clear hn hg hlt HA
      go_wp2
      go_ret
      exact ⟨rfl, HB.out⟩

set_option maxHeartbeats 4000000 in
set_option maxRecDepth 100000 in
theorem isForV_calls (N : Nat) (hN : N ≤ 6) (l : List Int) (hl : l.length = 6) (w : World) (r_ : Bool) (hr : okVL N l 6 = r_) :
    Calls Try.prog 49 #[.agg (U l).toArray, .int .i8 (N : Int)] w fun e w' => e = .returned (.bool r_) ∧ Below w.heap.size w w' := by
  have HL := Lib.hid hl
  have HR := Lib.hid hr
  have HB := Lib.hid (Below.refl w.heap.size w)
  have HN0 := Lib.hid hN
  have n1 : (0 : Int) ≤ (N : Int) := by omega
  have n2 : (N : Int) ≤ 6 := by omega
  clear hl hr hN
  go_enter Try.func49, Try.ntmps49
  go_wp2_with (first
    | ((with_reducible refine gate_dst (N := 2) rfl ?_); refine box_event ?hg (N := 2) ?hd (cs := (U l).toArray) (t := 46) ?hr ?_; (case hd => rfl); (case hg => rfl); (case hr => first | (go_simp; done) | (go_simp; rfl)); intro ga hg Wa hbox hb; have GWa := Lib.hid ((by rw [hg]; exact below_size (w := w) (by repeat (first | (with_reducible first | exact HB.out | apply below_alloc | apply pw_below_drewN | apply below_drew) | exact HB.out))) : w.heap.size ≤ ga); have HB_n := Lib.hid (below_step (w := w) (by repeat (first | (with_reducible first | exact HB.out | apply below_alloc | apply pw_below_drewN | apply below_drew) | exact HB.out)) hb); clear HB; have HB := HB_n; clear HB_n; have BKa := Lib.hid (show Blk Wa ga 46 (U l) from hbox); clear hbox hg hb))
  go_loopg [6] 6 (fun gg v4 wq => ∃ k : Nat, Hid (k ≤ 6) ∧ Hid (6 - k ≤ gg) ∧ v4 = .int .i8 (k : Int) ∧ Hid (okVL N l k = true) ∧ Hid (Blk wq ga 46 (U l)) ∧ Hid (Below w.heap.size w wq))
  case atStart => exact ⟨0, Lib.hid (Nat.zero_le _), Lib.hid (Nat.sub_le _ _), rfl, Lib.hid rfl, BKa, HB⟩
  case round =>
    clear BKa HB
    obtain ⟨k, hn, hg, rfl, HA, BKa, HB⟩ := hrel
    by_cases hlt : k < 6
    · have hx := (BKa.out.cell k).trans (U_get (by rw [HL.out]; exact hlt))
      have TS : Hid (okVL N l (k + 1) = (okVL N l k && !(decide (N ≤ k) && (l.getD k 0 != 0)))) := Lib.hid rfl
      have HRf : Hid (okVL N l (k + 1) = false → r_ = false) := Lib.hid (fun h => by rw [← HR.out, okVL_no h (by omega)])
      generalize l.getD k 0 = x at hx TS
      have kb0 : decide ((k : Int) < 6) = true := decide_eq_true (by omega)
      have kb1 : (k : Int) < 6 := by omega
      have ki0 : (0 : Int) ≤ (k : Int) := by omega
      have kib : k < 9223372036854775807 := by omega
      have HN := Lib.hid hlt
      clear hlt hn
      by_cases hA : N ≤ k
      · have dA : decide (N ≤ k) = true := decide_eq_true hA
        have dA1 : (N : Int) ≤ (k : Int) := by omega
        have dA2 : decide ((N : Int) ≤ (k : Int)) = true := decide_eq_true (by omega)
        clear hA
        by_cases hX : x = 0
        · have eX : (x == 0) = true := beq_iff_eq.mpr hX
          have nX : (x != 0) = false := by rw [bne, eX]; rfl
          have TO := Lib.hid (TS.out.trans (by rw [HA.out, nX, Bool.and_false]; rfl : _ = true))
          clear hX
          go_wp2
          go_roundg (6 - (k + 1))
          case measure => have := hg.out; have := HN.out; omega
          case rel => exact ⟨k + 1, Lib.hid HN.out, Lib.hid (Nat.le_refl _), by first | rfl | go_num, TO, BKa, HB⟩
        · have eX : (x == 0) = false := beq_eq_false_iff_ne.mpr hX
          have nX : (x != 0) = true := by rw [bne, eX]; rfl
          have TO := Lib.hid (TS.out.trans (by rw [nX, dA, Bool.true_and, Bool.not_true, Bool.and_false] : _ = false))
          clear hX
          have er : r_ = false := HRf.out TO.out
          subst er
          go_wp2
          go_ret
          exact ⟨rfl, HB.out⟩
      · have dA : decide (N ≤ k) = false := decide_eq_false hA
        have dA1 : (k : Int) < (N : Int) := by omega
        have dA2 : decide ((N : Int) ≤ (k : Int)) = false := decide_eq_false (by omega)
        have TO := Lib.hid (TS.out.trans (by rw [HA.out, dA]; rfl : _ = true))
        clear hA
        go_wp2
        go_roundg (6 - (k + 1))
        case measure => have := hg.out; have := HN.out; omega
        case rel => exact ⟨k + 1, Lib.hid HN.out, Lib.hid (Nat.le_refl _), by first | rfl | go_num, TO, BKa, HB⟩
    · have en : k = 6 := by have := hn.out; omega
      subst en
      have er : true = r_ := by rw [← HR.out]; exact HA.out.symm
      subst er
      clear hn hg hlt HA
      go_wp2
      go_ret
      exact ⟨rfl, HB.out⟩

end Go.Proofs.Ythjbeglmdifhdaa.Given
