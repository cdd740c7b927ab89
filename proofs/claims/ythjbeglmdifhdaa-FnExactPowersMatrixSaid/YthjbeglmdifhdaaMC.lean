/- Walks of functions that the print does not take. -/
import Derived.Test.YthjbeglmdifhdaaProg
import Derived.Below
import Derived.Deep.Draws
import Derived.Deep.AppendLies
import Derived.Maps.AppendAt
import Derived.OwnWalk
import Derived.Laws.BytesArg
import Derived.Laws.MakeOwn
import Derived.Laws.OwnMore
import Derived.Deep.OwnRows
import Derived.Tactics
import Derived.Lib.ConvBytes
import Derived.Laws.Slices
import Derived.WalkKit
import Derived.KernelRfl
import Derived.RowKit3
import Derived.Deep.LoopGhost
import Derived.Deep.QuietTactic
import Derived.BigQuiet
import Derived.WideLaws
import Derived.Deep.DeepCutAuto
import Derived.Deep.CutBlock
import Derived.Deep.RegionHeld3
import Derived.Laws.Rows
import Derived.Lib.AppendStr
import Derived.ArgAppend
import Derived.Laws.IdiomCopy
import Derived.OrdersHeld
import Derived.Laws.BitsLemmas
import Derived.RowKit
import Derived.Lib.Hide
import Derived.WalkSpells
import Derived.Test.YthjbeglmdifhdaaWWords
import Derived.Test.YthjbeglmdifhdaaWLast
import Derived.Test.YthjbeglmdifhdaaWTab
import Derived.Test.YthjbeglmdifhdaaWFour
import Derived.Test.YthjbeglmdifhdaaWQPut
import Derived.Test.YthjbeglmdifhdaaWApart
import Derived.Test.YthjbeglmdifhdaaWArr
import Derived.Test.YthjbeglmdifhdaaWZeros
import Derived.Test.YthjbeglmdifhdaaWFoot
import Derived.Test.YthjbeglmdifhdaaWKept
import Derived.Test.YthjbeglmdifhdaaWShare
import Derived.Test.YthjbeglmdifhdaaWN
import Derived.Test.YthjbeglmdifhdaaWFootNe
import Derived.Test.YthjbeglmdifhdaaWAt
import Derived.Test.YthjbeglmdifhdaaWEqStruct
import Derived.Test.YthjbeglmdifhdaaWRepsOne
import Derived.Test.YthjbeglmdifhdaaWInv
import Derived.Test.YthjbeglmdifhdaaWInvWords
import Derived.Test.YthjbeglmdifhdaaWGuard
import Derived.Test.YthjbeglmdifhdaaWNEv
import Derived.Test.YthjbeglmdifhdaaWMore
import Derived.Test.YthjbeglmdifhdaaN1
import Derived.Test.YthjbeglmdifhdaaMB
namespace Go.Proofs.Ythjbeglmdifhdaa.Given
open Go.RowKit Go.Proofs.YthjbeglmdifhdaaW.PrintWords Go.Proofs.YthjbeglmdifhdaaW.PrintLast Go.Proofs.YthjbeglmdifhdaaW.PrintMore Go.Proofs.Ythjbeglmdifhdaa.NimF Go.Proofs.Ythjbeglmdifhdaa.NimGo
set_option linter.unusedVariables false
set_option linter.unusedSimpArgs false
/-- a number from one bound to another -/
def inB (a b c : Int) : Bool := decide (b ≤ a ∧ a ≤ c)
set_option maxHeartbeats 1000000 in
theorem win_calls (a b c : Int) (w : World) : Calls Try.prog 40 #[.int .i64 a, .int .i64 b, .int .i64 c] w fun e w' => e = .returned (.bool (inB a b c)) ∧ w = w' := by
  unfold inB
  by_cases h : b ≤ a
  · by_cases h2 : a ≤ c
    · rw [decide_eq_true ⟨h, h2⟩]
      go_enter Try.func40, Try.ntmps40
      go_wp2
      go_ret
      exact ⟨rfl, rfl⟩
    · rw [decide_eq_false (fun e => h2 e.2)]
      have h3 : c < a := by omega
      have h4 : decide (a ≤ c) = false := decide_eq_false h2
      clear h2
      go_enter Try.func40, Try.ntmps40
      go_wp2
      go_ret
      exact ⟨rfl, rfl⟩
  · rw [decide_eq_false (fun e => h e.1)]
    have h3 : a < b := by omega
    clear h
    go_enter Try.func40, Try.ntmps40
    go_wp2
    go_ret
    exact ⟨rfl, rfl⟩
set_option maxHeartbeats 1000000 in
theorem sin_calls (a b c : Int) (w : World) : Calls Try.prog 38 #[.int .i64 a, .int .i64 b, .int .i64 c] w fun e w' => e = .returned (.bool (inB a b c)) ∧ w = w' := by
  unfold inB
  by_cases h : b ≤ a
  · by_cases h2 : a ≤ c
    · rw [decide_eq_true ⟨h, h2⟩]
      go_enter Try.func38, Try.ntmps38
      go_wp2
      go_ret
      exact ⟨rfl, rfl⟩
    · rw [decide_eq_false (fun e => h2 e.2)]
      have h3 : c < a := by omega
      have h4 : decide (a ≤ c) = false := decide_eq_false h2
      clear h2
      go_enter Try.func38, Try.ntmps38
      go_wp2
      go_ret
      exact ⟨rfl, rfl⟩
  · rw [decide_eq_false (fun e => h e.1)]
    have h3 : a < b := by omega
    clear h
    go_enter Try.func38, Try.ntmps38
    go_wp2
    go_ret
    exact ⟨rfl, rfl⟩
/-- the cell of a row and a column keeps to the size -/
def okAt (r c : Int) (l : List Int) (i k : Nat) : Bool := !((decide (r ≤ (i : Int)) || decide (c ≤ (k : Int))) && (l.getD (i * 6 + k) 0 != 0))
def okL (r c : Int) (l : List Int) : Nat → Bool
  | 0 => true
  | n + 1 => okL r c l n && okAt r c l (n / 6) (n % 6)
theorem okL_step (r c : Int) (l : List Int) (i k : Nat) (hk : k < 6) : okL r c l (i * 6 + k + 1) = (okL r c l (i * 6 + k) && okAt r c l i k) := by
  have e1 : (i * 6 + k) / 6 = i := by omega
  have e2 : (i * 6 + k) % 6 = k := by omega
  show (okL r c l (i * 6 + k) && okAt r c l ((i * 6 + k) / 6) ((i * 6 + k) % 6)) = _
  rw [e1, e2]
theorem okL_no {r c : Int} {l : List Int} {n m : Nat} (h : okL r c l n = false) (hm : n ≤ m) : okL r c l m = false := by
  induction m with
  | zero => have : n = 0 := by omega
            subst this; exact h
  | succ m ih =>
    by_cases e : n = m + 1
    · subst e; exact h
    · show (okL r c l m && _) = false
      rw [ih (by omega)]; rfl
/-- a matrix that is valid -/
def okM (r c : Int) (l : List Int) : Bool := inB r 1 6 && (inB c 1 6 && okL r c l 36)
theorem okM_in {r c : Int} {l : List Int} (h : okM r c l = true) : 1 ≤ r ∧ r ≤ 6 ∧ 1 ≤ c ∧ c ≤ 6 ∧ okL r c l 36 = true := by
  unfold okM inB at h
  simp only [Bool.and_eq_true, decide_eq_true_eq] at h
  exact ⟨h.1.1, h.1.2, h.2.1.1, h.2.1.2, h.2.2⟩

set_option maxHeartbeats 8000000 in
set_option maxRecDepth 100000 in
theorem l02Ok_calls (r c : Int) (l : List Int) (hl : l.length = 36) (h1 : -128 ≤ r) (h2 : r ≤ 127) (h3 : -128 ≤ c) (h4 : c ≤ 127) (ga : Nat) (w : World) (hB : Blk w ga 29 (M r c l)) (r_ : Bool) (hr : okM r c l = r_) :
    Calls Try.prog 43 #[.pointer (some ⟨ga, 0, none⟩)] w fun e w' => e = .returned (.bool r_) ∧ Below w.heap.size w w' := by
  have HL := Lib.hid hl
  clear hl
  have hr0 : w.cell? ⟨ga, 0, none⟩ = some (.int .i8 r) := hB.cell 0
  have hr1 : w.cell? ⟨ga, 1, none⟩ = some (.int .i8 c) := hB.cell 1
  have BKa := Lib.hid hB
  have HB := Lib.hid (Below.refl w.heap.size w)
  clear hB
  unfold okM at hr
  obtain ⟨v1, e1⟩ : ∃ v, inB r 1 6 = v := ⟨_, rfl⟩
  obtain ⟨v2, e2⟩ : ∃ v, inB c 1 6 = v := ⟨_, rfl⟩
  rw [e1, e2] at hr
  have E1 := Lib.hid (fun W => e1 ▸ sin_calls r 1 6 W)
  have E2 := Lib.hid (fun W => e2 ▸ sin_calls c 1 6 W)
  have I1 := Lib.hid e1
  have I2 := Lib.hid e2
  clear e1 e2
  have t1 : True := trivial
  have t2 : True := trivial
  cases v1 with
  | false =>
    have er : false = r_ := by rw [← hr]; rfl
    subst er
    clear hr
    go_enter Try.func43, Try.ntmps43
    go_wp2_with (first | (go_at_call 38; have _t := t1; (with_reducible refine (E1.out _).mono ?_); rintro e w1 ⟨rfl, rfl⟩; clear _t t1))
    go_ret
    exact ⟨rfl, HB.out⟩
  | true =>
  cases v2 with
  | false =>
    have er : false = r_ := by rw [← hr]; rfl
    subst er
    clear hr
    go_enter Try.func43, Try.ntmps43
    go_wp2_with (first | (go_at_call 38; have _t := t1; (with_reducible refine (E1.out _).mono ?_); rintro e w1 ⟨rfl, rfl⟩; clear _t t1) | (go_at_call 38; have _t := t2; (with_reducible refine (E2.out _).mono ?_); rintro e w1 ⟨rfl, rfl⟩; clear _t t2))
    go_ret
    exact ⟨rfl, HB.out⟩
  | true =>
    have HR : Hid (okL r c l 36 = r_) := Lib.hid (by rw [← hr]; rfl)
    have q1 : 1 ≤ r := (of_decide_eq_true I1.out).1
    have q2 : r ≤ 6 := (of_decide_eq_true I1.out).2
    have q3 : 1 ≤ c := (of_decide_eq_true I2.out).1
    have q4 : c ≤ 6 := (of_decide_eq_true I2.out).2
    clear hr h1 h2 h3 h4
    go_enter Try.func43, Try.ntmps43
    go_wp2_with (first | (go_at_call 38; have _t := t1; (with_reducible refine (E1.out _).mono ?_); rintro e w1 ⟨rfl, rfl⟩; clear _t t1) | (go_at_call 38; have _t := t2; (with_reducible refine (E2.out _).mono ?_); rintro e w1 ⟨rfl, rfl⟩; clear _t t2))

    go_loopg [3] 6 (fun gg v3 wr => ∃ i : Nat, Hid (i ≤ 6) ∧ Hid (6 - i ≤ gg) ∧ v3 = .int .i64 (i : Int) ∧ Hid (okL r c l (i * 6) = true) ∧ Hid (Blk wr ga 29 (M r c l)) ∧ Hid (Below w.heap.size w wr))
    case atStart => exact ⟨0, Lib.hid (Nat.zero_le _), Lib.hid (Nat.sub_le _ _), rfl, Lib.hid rfl, BKa, HB⟩
    case round =>
      clear BKa HB
      obtain ⟨i, hn, hg, rfl, HA, BKa, HB⟩ := hrel
      by_cases hlt : i < 6
      · have hb0 : decide ((i : Int) < 6) = true := decide_eq_true (by omega)
        have hb1 : (i : Int) < 6 := by omega
        have hi0 : (0 : Int) ≤ (i : Int) := by omega
        have hib : i < 9223372036854775807 := by omega
        have HNi := Lib.hid hlt
        have HGi := Lib.hid hg.out
        clear hlt hn hg
        go_wp2
        go_loopg [4] 6 (fun gg v4 wq => ∃ k : Nat, Hid (k ≤ 6) ∧ Hid (6 - k ≤ gg) ∧ v4 = .int .i64 (k : Int) ∧ Hid (okL r c l (i * 6 + k) = true) ∧ Hid (Blk wq ga 29 (M r c l)) ∧ Hid (Below w.heap.size w wq))
        case atStart => exact ⟨0, Lib.hid (Nat.zero_le _), Lib.hid (Nat.sub_le _ _), rfl, HA, BKa, HB⟩
        case round =>
          clear BKa HB HA
          obtain ⟨k, hn, hg, rfl, HA, BKa, HB⟩ := hrel
          by_cases hlt : k < 6
          · have hx := (BKa.out.cell (i * 6 + k + 2)).trans (M_get (by rw [HL.out]; have := HNi.out; omega))
            have hr0 : _ = some (Value.int .i8 r) := BKa.out.cell 0
            have hr1 : _ = some (Value.int .i8 c) := BKa.out.cell 1
            rw [show i * 6 + k + 2 = 2 + i * 6 + k by omega] at hx
            have TS := Lib.hid (okL_step r c l i k hlt)
            have TA : Hid (okAt r c l i k = !((decide (r ≤ (i : Int)) || decide (c ≤ (k : Int))) && (l.getD (i * 6 + k) 0 != 0))) := Lib.hid rfl
            have HRf : Hid (okL r c l (i * 6 + k + 1) = false → r_ = false) := Lib.hid (fun h => by rw [← HR.out, okL_no h (by have := HNi.out; omega)])
            generalize l.getD (i * 6 + k) 0 = x at hx TA
            have kb0 : decide ((k : Int) < 6) = true := decide_eq_true (by omega)
            have kb1 : (k : Int) < 6 := by omega
            have ki0 : (0 : Int) ≤ (k : Int) := by omega
            have kib : k < 9223372036854775807 := by omega
            have HN := Lib.hid hlt
            clear hlt hn
            by_cases hA : r ≤ (i : Int)
            · have dA : decide (r ≤ (i : Int)) = true := decide_eq_true hA
              by_cases hX : x = 0
              · have eX : (x == 0) = true := beq_iff_eq.mpr hX
                have nX : (x != 0) = false := by rw [bne, eX]; rfl
                have TO := Lib.hid (TS.out.trans (by rw [HA.out, TA.out, nX, Bool.and_false]; rfl : _ = true))
                clear hX
                go_wp2
                go_roundg (6 - (k + 1))
                case measure => have := hg.out; have := HN.out; omega
                case rel => exact ⟨k + 1, Lib.hid HN.out, Lib.hid (Nat.le_refl _), by first | rfl | go_num, TO, BKa, HB⟩
              · have eX : (x == 0) = false := beq_eq_false_iff_ne.mpr hX
                have nX : (x != 0) = true := by rw [bne, eX]; rfl
                have TO := Lib.hid (TS.out.trans (by rw [TA.out, nX, dA, Bool.true_or, Bool.and_self, Bool.not_true, Bool.and_false] : _ = false))
                clear hX
                have er : r_ = false := HRf.out TO.out
                subst er
                go_wp2
                go_ret
                exact ⟨rfl, HB.out⟩
            · have dA : decide (r ≤ (i : Int)) = false := decide_eq_false hA
              have hA2 : (i : Int) < r := by omega
              clear hA
              by_cases hB : c ≤ (k : Int)
              · have dB : decide (c ≤ (k : Int)) = true := decide_eq_true hB
                by_cases hX : x = 0
                · have eX : (x == 0) = true := beq_iff_eq.mpr hX
                  have nX : (x != 0) = false := by rw [bne, eX]; rfl
                  have TO := Lib.hid (TS.out.trans (by rw [HA.out, TA.out, nX, Bool.and_false]; rfl : _ = true))
                  clear hX
                  go_wp2
                  go_roundg (6 - (k + 1))
                  case measure => have := hg.out; have := HN.out; omega
                  case rel => exact ⟨k + 1, Lib.hid HN.out, Lib.hid (Nat.le_refl _), by first | rfl | go_num, TO, BKa, HB⟩
                · have eX : (x == 0) = false := beq_eq_false_iff_ne.mpr hX
                  have nX : (x != 0) = true := by rw [bne, eX]; rfl
                  have TO := Lib.hid (TS.out.trans (by rw [TA.out, nX, dB, Bool.or_true, Bool.and_self, Bool.not_true, Bool.and_false] : _ = false))
                  clear hX
                  have er : r_ = false := HRf.out TO.out
                  subst er
                  go_wp2
                  go_ret
                  exact ⟨rfl, HB.out⟩
              · have dB : decide (c ≤ (k : Int)) = false := decide_eq_false hB
                have hB2 : (k : Int) < c := by omega
                clear hB
                have TO := Lib.hid (TS.out.trans (by rw [HA.out, TA.out, dA, dB]; rfl : _ = true))
                by_cases hX : x = 0
                · have eX : (x == 0) = true := beq_iff_eq.mpr hX
                  have nX : (x != 0) = false := by rw [bne, eX]; rfl
                  clear hX
                  go_wp2
                  go_roundg (6 - (k + 1))
                  case measure => have := hg.out; have := HN.out; omega
                  case rel => exact ⟨k + 1, Lib.hid HN.out, Lib.hid (Nat.le_refl _), by first | rfl | go_num, TO, BKa, HB⟩
                · have eX : (x == 0) = false := beq_eq_false_iff_ne.mpr hX
                  have nX : (x != 0) = true := by rw [bne, eX]; rfl
                  clear hX
                  go_wp2
                  go_roundg (6 - (k + 1))
                  case measure => have := hg.out; have := HN.out; omega
                  case rel => exact ⟨k + 1, Lib.hid HN.out, Lib.hid (Nat.le_refl _), by first | rfl | go_num, TO, BKa, HB⟩
          · have en : k = 6 := by have := hn.out; omega
            subst en
            have TO : Hid (okL r c l ((i + 1) * 6) = true) := Lib.hid (by rw [show (i + 1) * 6 = i * 6 + 6 by omega]; exact HA.out)
            clear hn hg hlt
            go_wp2
            go_roundg (6 - (i + 1))
            case measure => have := HGi.out; have := HNi.out; omega
            case rel => exact ⟨i + 1, Lib.hid HNi.out, Lib.hid (Nat.le_refl _), by first | rfl | go_num, TO, BKa, HB⟩
      · have en : i = 6 := by have := hn.out; omega
        subst en
        have er : true = r_ := by rw [← HR.out]; exact HA.out.symm
        subst er
        clear hn hg hlt HA
        go_wp2
        go_ret
        exact ⟨rfl, HB.out⟩

set_option maxHeartbeats 8000000 in
set_option maxRecDepth 100000 in
theorem validM_calls (r c : Int) (l : List Int) (hl : l.length = 36) (h1 : -128 ≤ r) (h2 : r ≤ 127) (h3 : -128 ≤ c) (h4 : c ≤ 127) (w : World) (r_ : Bool) (hr : okM r c l = r_) :
    Calls Try.prog 45 #[.agg (M r c l).toArray] w fun e w' => e = .returned (.bool r_) ∧ Below w.heap.size w w' := by
  have HL := Lib.hid hl
  clear hl
  have HB := Lib.hid (Below.refl w.heap.size w)
  unfold okM at hr
  obtain ⟨v1, e1⟩ : ∃ v, inB r 1 6 = v := ⟨_, rfl⟩
  obtain ⟨v2, e2⟩ : ∃ v, inB c 1 6 = v := ⟨_, rfl⟩
  rw [e1, e2] at hr
  have E1 := Lib.hid (fun W => e1 ▸ win_calls r 1 6 W)
  have E2 := Lib.hid (fun W => e2 ▸ win_calls c 1 6 W)
  have I1 := Lib.hid e1
  have I2 := Lib.hid e2
  clear e1 e2
  have t1 : True := trivial
  have t2 : True := trivial
  cases v1 with
  | false =>
    have er : false = r_ := by rw [← hr]; rfl
    subst er
    clear hr
    go_enter Try.func45, Try.ntmps45
    go_wp2_with (first | ((with_reducible refine gate_dst (N := 1) rfl ?_); refine box_event ?hg (N := 1) ?hd (cs := (M r c l).toArray) (t := 29) ?hr ?_; (case hd => rfl); (case hg => rfl); (case hr => first | (go_simp; done) | (go_simp; rfl)); intro ga hg Wa hbox hb; have GWa := Lib.hid ((by rw [hg]; exact below_size (w := w) (by repeat (first | (with_reducible first | exact HB.out | apply below_alloc | apply pw_below_drewN | apply below_drew) | exact HB.out))) : w.heap.size ≤ ga); have HB_n := Lib.hid (below_step (w := w) (by repeat (first | (with_reducible first | exact HB.out | apply below_alloc | apply pw_below_drewN | apply below_drew) | exact HB.out)) hb); clear HB; have HB := HB_n; clear HB_n; have BKa := Lib.hid (show Blk Wa ga 29 (M r c l) from hbox); clear hbox hg hb; have hr0 : Wa.cell? ⟨ga, 0, none⟩ = some (.int .i8 r) := BKa.out.cell 0; have hr1 : Wa.cell? ⟨ga, 1, none⟩ = some (.int .i8 c) := BKa.out.cell 1) | (go_at_call 40; have _t := t1; (with_reducible refine (E1.out _).mono ?_); rintro e w1 ⟨rfl, rfl⟩; clear _t t1))
    go_ret
    exact ⟨rfl, HB.out⟩
  | true =>
  cases v2 with
  | false =>
    have er : false = r_ := by rw [← hr]; rfl
    subst er
    clear hr
    go_enter Try.func45, Try.ntmps45
    go_wp2_with (first | ((with_reducible refine gate_dst (N := 1) rfl ?_); refine box_event ?hg (N := 1) ?hd (cs := (M r c l).toArray) (t := 29) ?hr ?_; (case hd => rfl); (case hg => rfl); (case hr => first | (go_simp; done) | (go_simp; rfl)); intro ga hg Wa hbox hb; have GWa := Lib.hid ((by rw [hg]; exact below_size (w := w) (by repeat (first | (with_reducible first | exact HB.out | apply below_alloc | apply pw_below_drewN | apply below_drew) | exact HB.out))) : w.heap.size ≤ ga); have HB_n := Lib.hid (below_step (w := w) (by repeat (first | (with_reducible first | exact HB.out | apply below_alloc | apply pw_below_drewN | apply below_drew) | exact HB.out)) hb); clear HB; have HB := HB_n; clear HB_n; have BKa := Lib.hid (show Blk Wa ga 29 (M r c l) from hbox); clear hbox hg hb; have hr0 : Wa.cell? ⟨ga, 0, none⟩ = some (.int .i8 r) := BKa.out.cell 0; have hr1 : Wa.cell? ⟨ga, 1, none⟩ = some (.int .i8 c) := BKa.out.cell 1) | (go_at_call 40; have _t := t1; (with_reducible refine (E1.out _).mono ?_); rintro e w1 ⟨rfl, rfl⟩; clear _t t1) | (go_at_call 40; have _t := t2; (with_reducible refine (E2.out _).mono ?_); rintro e w1 ⟨rfl, rfl⟩; clear _t t2))
    go_ret
    exact ⟨rfl, HB.out⟩
  | true =>
    have HR : Hid (okL r c l 36 = r_) := Lib.hid (by rw [← hr]; rfl)
    have q1 : 1 ≤ r := (of_decide_eq_true I1.out).1
    have q2 : r ≤ 6 := (of_decide_eq_true I1.out).2
    have q3 : 1 ≤ c := (of_decide_eq_true I2.out).1
    have q4 : c ≤ 6 := (of_decide_eq_true I2.out).2
    clear hr h1 h2 h3 h4
    go_enter Try.func45, Try.ntmps45
    go_wp2_with (first | ((with_reducible refine gate_dst (N := 1) rfl ?_); refine box_event ?hg (N := 1) ?hd (cs := (M r c l).toArray) (t := 29) ?hr ?_; (case hd => rfl); (case hg => rfl); (case hr => first | (go_simp; done) | (go_simp; rfl)); intro ga hg Wa hbox hb; have GWa := Lib.hid ((by rw [hg]; exact below_size (w := w) (by repeat (first | (with_reducible first | exact HB.out | apply below_alloc | apply pw_below_drewN | apply below_drew) | exact HB.out))) : w.heap.size ≤ ga); have HB_n := Lib.hid (below_step (w := w) (by repeat (first | (with_reducible first | exact HB.out | apply below_alloc | apply pw_below_drewN | apply below_drew) | exact HB.out)) hb); clear HB; have HB := HB_n; clear HB_n; have BKa := Lib.hid (show Blk Wa ga 29 (M r c l) from hbox); clear hbox hg hb; have hr0 : Wa.cell? ⟨ga, 0, none⟩ = some (.int .i8 r) := BKa.out.cell 0; have hr1 : Wa.cell? ⟨ga, 1, none⟩ = some (.int .i8 c) := BKa.out.cell 1) | (go_at_call 40; have _t := t1; (with_reducible refine (E1.out _).mono ?_); rintro e w1 ⟨rfl, rfl⟩; clear _t t1) | (go_at_call 40; have _t := t2; (with_reducible refine (E2.out _).mono ?_); rintro e w1 ⟨rfl, rfl⟩; clear _t t2))

    go_loopg [17] 6 (fun gg v3 wr => ∃ i : Nat, Hid (i ≤ 6) ∧ Hid (6 - i ≤ gg) ∧ v3 = .int .i8 (i : Int) ∧ Hid (okL r c l (i * 6) = true) ∧ Hid (Blk wr ga 29 (M r c l)) ∧ Hid (Below w.heap.size w wr))
    case atStart => exact ⟨0, Lib.hid (Nat.zero_le _), Lib.hid (Nat.sub_le _ _), rfl, Lib.hid rfl, BKa, HB⟩
    case round =>
      clear BKa HB
      obtain ⟨i, hn, hg, rfl, HA, BKa, HB⟩ := hrel
      by_cases hlt : i < 6
      · have hb0 : decide ((i : Int) < 6) = true := decide_eq_true (by omega)
        have hb1 : (i : Int) < 6 := by omega
        have hi0 : (0 : Int) ≤ (i : Int) := by omega
        have hib : i < 9223372036854775807 := by omega
        have HNi := Lib.hid hlt
        have HGi := Lib.hid hg.out
        clear hlt hn hg
        go_wp2
        go_loopg [20] 6 (fun gg v4 wq => ∃ k : Nat, Hid (k ≤ 6) ∧ Hid (6 - k ≤ gg) ∧ v4 = .int .i8 (k : Int) ∧ Hid (okL r c l (i * 6 + k) = true) ∧ Hid (Blk wq ga 29 (M r c l)) ∧ Hid (Below w.heap.size w wq))
        case atStart => exact ⟨0, Lib.hid (Nat.zero_le _), Lib.hid (Nat.sub_le _ _), rfl, HA, BKa, HB⟩
        case round =>
          clear BKa HB HA
          obtain ⟨k, hn, hg, rfl, HA, BKa, HB⟩ := hrel
          by_cases hlt : k < 6
          · have hx := (BKa.out.cell (i * 6 + k + 2)).trans (M_get (by rw [HL.out]; have := HNi.out; omega))
            have hr0 : _ = some (Value.int .i8 r) := BKa.out.cell 0
            have hr1 : _ = some (Value.int .i8 c) := BKa.out.cell 1
            rw [show i * 6 + k + 2 = 2 + i * 6 + k by omega] at hx
            have TS := Lib.hid (okL_step r c l i k hlt)
            have TA : Hid (okAt r c l i k = !((decide (r ≤ (i : Int)) || decide (c ≤ (k : Int))) && (l.getD (i * 6 + k) 0 != 0))) := Lib.hid rfl
            have HRf : Hid (okL r c l (i * 6 + k + 1) = false → r_ = false) := Lib.hid (fun h => by rw [← HR.out, okL_no h (by have := HNi.out; omega)])
            generalize l.getD (i * 6 + k) 0 = x at hx TA
            have kb0 : decide ((k : Int) < 6) = true := decide_eq_true (by omega)
            have kb1 : (k : Int) < 6 := by omega
            have ki0 : (0 : Int) ≤ (k : Int) := by omega
            have kib : k < 9223372036854775807 := by omega
            have HN := Lib.hid hlt
            clear hlt hn
            by_cases hA : r ≤ (i : Int)
            · have dA : decide (r ≤ (i : Int)) = true := decide_eq_true hA
              by_cases hX : x = 0
              · have eX : (x == 0) = true := beq_iff_eq.mpr hX
                have nX : (x != 0) = false := by rw [bne, eX]; rfl
                have TO := Lib.hid (TS.out.trans (by rw [HA.out, TA.out, nX, Bool.and_false]; rfl : _ = true))
                clear hX
                go_wp2
                go_roundg (6 - (k + 1))
                case measure => have := hg.out; have := HN.out; omega
                case rel => exact ⟨k + 1, Lib.hid HN.out, Lib.hid (Nat.le_refl _), by first | rfl | go_num, TO, BKa, HB⟩
              · have eX : (x == 0) = false := beq_eq_false_iff_ne.mpr hX
                have nX : (x != 0) = true := by rw [bne, eX]; rfl
                have TO := Lib.hid (TS.out.trans (by rw [TA.out, nX, dA, Bool.true_or, Bool.and_self, Bool.not_true, Bool.and_false] : _ = false))
                clear hX
                have er : r_ = false := HRf.out TO.out
                subst er
                go_wp2
                go_ret
                exact ⟨rfl, HB.out⟩
            · have dA : decide (r ≤ (i : Int)) = false := decide_eq_false hA
              have hA2 : (i : Int) < r := by omega
              clear hA
              by_cases hB : c ≤ (k : Int)
              · have dB : decide (c ≤ (k : Int)) = true := decide_eq_true hB
                by_cases hX : x = 0
                · have eX : (x == 0) = true := beq_iff_eq.mpr hX
                  have nX : (x != 0) = false := by rw [bne, eX]; rfl
                  have TO := Lib.hid (TS.out.trans (by rw [HA.out, TA.out, nX, Bool.and_false]; rfl : _ = true))
                  clear hX
                  go_wp2
                  go_roundg (6 - (k + 1))
                  case measure => have := hg.out; have := HN.out; omega
                  case rel => exact ⟨k + 1, Lib.hid HN.out, Lib.hid (Nat.le_refl _), by first | rfl | go_num, TO, BKa, HB⟩
                · have eX : (x == 0) = false := beq_eq_false_iff_ne.mpr hX
                  have nX : (x != 0) = true := by rw [bne, eX]; rfl
                  have TO := Lib.hid (TS.out.trans (by rw [TA.out, nX, dB, Bool.or_true, Bool.and_self, Bool.not_true, Bool.and_false] : _ = false))
                  clear hX
                  have er : r_ = false := HRf.out TO.out
                  subst er
                  go_wp2
                  go_ret
                  exact ⟨rfl, HB.out⟩
              · have dB : decide (c ≤ (k : Int)) = false := decide_eq_false hB
                have hB2 : (k : Int) < c := by omega
                clear hB
                have TO := Lib.hid (TS.out.trans (by rw [HA.out, TA.out, dA, dB]; rfl : _ = true))
                by_cases hX : x = 0
                · have eX : (x == 0) = true := beq_iff_eq.mpr hX
                  have nX : (x != 0) = false := by rw [bne, eX]; rfl
                  clear hX
                  go_wp2
                  go_roundg (6 - (k + 1))
                  case measure => have := hg.out; have := HN.out; omega
                  case rel => exact ⟨k + 1, Lib.hid HN.out, Lib.hid (Nat.le_refl _), by first | rfl | go_num, TO, BKa, HB⟩
                · have eX : (x == 0) = false := beq_eq_false_iff_ne.mpr hX
                  have nX : (x != 0) = true := by rw [bne, eX]; rfl
                  clear hX
                  go_wp2
                  go_roundg (6 - (k + 1))
                  case measure => have := hg.out; have := HN.out; omega
                  case rel => exact ⟨k + 1, Lib.hid HN.out, Lib.hid (Nat.le_refl _), by first | rfl | go_num, TO, BKa, HB⟩
          · have en : k = 6 := by have := hn.out; omega
            subst en
            have TO : Hid (okL r c l ((i + 1) * 6) = true) := Lib.hid (by rw [show (i + 1) * 6 = i * 6 + 6 by omega]; exact HA.out)
            clear hn hg hlt
            go_wp2
            go_roundg (6 - (i + 1))
            case measure => have := HGi.out; have := HNi.out; omega
            case rel => exact ⟨i + 1, Lib.hid HNi.out, Lib.hid (Nat.le_refl _), by first | rfl | go_num, TO, BKa, HB⟩
      · have en : i = 6 := by have := hn.out; omega
        subst en
        have er : true = r_ := by rw [← HR.out]; exact HA.out.symm
        subst er
        clear hn hg hlt HA
        go_wp2
        go_ret
        exact ⟨rfl, HB.out⟩

end Go.Proofs.Ythjbeglmdifhdaa.Given
