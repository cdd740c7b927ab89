/- Walks of functions that the print does not take. -/
import Derived.Test.YthjbeglmdifhdaaProg
import Derived.Below
import Derived.Deep.Draws
import Derived.Deep.AppendLies
import Derived.Maps.AppendAt
import Derived.OwnWalk
import Derived.Laws.BytesArg
import Derived.Laws.MakeOwn
import Derived.Laws.OwnMore
import Derived.Deep.OwnRows
import Derived.Tactics
import Derived.Lib.ConvBytes
import Derived.Laws.Slices
import Derived.WalkKit
import Derived.KernelRfl
import Derived.RowKit3
import Derived.Deep.LoopGhost
import Derived.Deep.QuietTactic
import Derived.BigQuiet
import Derived.WideLaws
import Derived.Deep.DeepCutAuto
import Derived.Deep.CutBlock
import Derived.Deep.RegionHeld3
import Derived.Laws.Rows
import Derived.Lib.AppendStr
import Derived.ArgAppend
import Derived.Laws.IdiomCopy
import Derived.OrdersHeld
import Derived.Laws.BitsLemmas
import Derived.RowKit
import Derived.Lib.Hide
import Derived.WalkSpells
import Derived.Test.YthjbeglmdifhdaaWWords
import Derived.Test.YthjbeglmdifhdaaWLast
import Derived.Test.YthjbeglmdifhdaaWTab
import Derived.Test.YthjbeglmdifhdaaWFour
import Derived.Test.YthjbeglmdifhdaaWQPut
import Derived.Test.YthjbeglmdifhdaaWApart
import Derived.Test.YthjbeglmdifhdaaWArr
import Derived.Test.YthjbeglmdifhdaaWZeros
import Derived.Test.YthjbeglmdifhdaaWFoot
import Derived.Test.YthjbeglmdifhdaaWKept
import Derived.Test.YthjbeglmdifhdaaWShare
import Derived.Test.YthjbeglmdifhdaaWN
import Derived.Test.YthjbeglmdifhdaaWFootNe
import Derived.Test.YthjbeglmdifhdaaWAt
import Derived.Test.YthjbeglmdifhdaaWEqStruct
import Derived.Test.YthjbeglmdifhdaaWRepsOne
import Derived.Test.YthjbeglmdifhdaaWInv
import Derived.Test.YthjbeglmdifhdaaWInvWords
import Derived.Test.YthjbeglmdifhdaaWGuard
import Derived.Test.YthjbeglmdifhdaaWNEv
import Derived.Test.YthjbeglmdifhdaaWMore
import Derived.Test.YthjbeglmdifhdaaN1
import Derived.Test.YthjbeglmdifhdaaMA
namespace Go.Proofs.Ythjbeglmdifhdaa.Given
open Go.RowKit Go.Proofs.YthjbeglmdifhdaaW.PrintWords Go.Proofs.YthjbeglmdifhdaaW.PrintLast Go.Proofs.YthjbeglmdifhdaaW.PrintMore Go.Proofs.Ythjbeglmdifhdaa.NimF Go.Proofs.Ythjbeglmdifhdaa.NimGo
set_option linter.unusedVariables false
set_option linter.unusedSimpArgs false
set_option maxHeartbeats 2000000 in
theorem eqA6_calls (l : List Int) (hl : l.length = 6) (w : World) : Calls Try.prog 76 #[.agg (U l).toArray, .agg (U l).toArray] w fun e w' => e = .returned (.bool true) ∧ Below w.heap.size w w' := by
  have HL := Lib.hid hl
  clear hl
  have HB := Lib.hid (Below.refl w.heap.size w)
  go_enter Try.func76, Try.ntmps76
  go_wp2_with (first
    | ((with_reducible refine gate_dst (N := 2) rfl ?_); refine box_event ?hg (N := 2) ?hd (cs := (U l).toArray) (t := 26) ?hr ?_; (case hd => rfl); (case hg => rfl); (case hr => first | (go_simp; done) | (go_simp; rfl)); intro ga hg Wa hbox hb; have GWa := Lib.hid ((by rw [hg]; exact below_size (w := w) (by repeat (first | (with_reducible first | exact HB.out | apply below_alloc | apply pw_below_drewN | apply below_drew) | exact HB.out))) : w.heap.size ≤ ga); have HB_n := Lib.hid (below_step (w := w) (by repeat (first | (with_reducible first | exact HB.out | apply below_alloc | apply pw_below_drewN | apply below_drew) | exact HB.out)) hb); clear HB; have HB := HB_n; clear HB_n; have BKa := Lib.hid (show Blk Wa ga 26 (U l) from hbox); clear hbox hg hb)
    | ((with_reducible refine gate_dst (N := 3) rfl ?_); refine box_event ?hg (N := 3) ?hd (cs := (U l).toArray) (t := 26) ?hr ?_; (case hd => rfl); (case hg => rfl); (case hr => first | (go_simp; done) | (go_simp; rfl)); intro gb hg Wb hbox hb; have GWb := Lib.hid ((by rw [hg]; exact below_size (w := w) (by repeat (first | (with_reducible first | exact HB.out | apply below_alloc | apply pw_below_drewN | apply below_drew) | exact HB.out))) : w.heap.size ≤ gb); have NEab : ga ≠ gb := (by rw [hg]; exact Nat.ne_of_lt (Blk.lt (by (with_reducible repeat (first | apply Blk.alloc | apply Blk.drewN | apply Blk.drew)); exact BKa.out))); have NEba : gb ≠ ga := NEab.symm; have BKa_n := Lib.hid (Blk.below (by (with_reducible repeat (first | apply Blk.alloc | apply Blk.drewN | apply Blk.drew)); exact BKa.out) hb); have HB_n := Lib.hid (below_step (w := w) (by repeat (first | (with_reducible first | exact HB.out | apply below_alloc | apply pw_below_drewN | apply below_drew) | exact HB.out)) hb); clear BKa; have BKa := BKa_n; clear BKa_n; clear HB; have HB := HB_n; clear HB_n; have BKb := Lib.hid (show Blk Wb gb 26 (U l) from hbox); clear hbox hg hb))
  go_loopg [5] 6 (fun gg v4 wr => ∃ n : Nat, Hid (n ≤ 6) ∧ Hid (6 - n ≤ gg) ∧ v4 = .int .i64 (n : Int) ∧ Hid (Blk wr ga 26 (U l)) ∧ Hid (Blk wr gb 26 (U l)) ∧ Hid (Below w.heap.size w wr))
  case atStart => exact ⟨0, Lib.hid (Nat.zero_le _), Lib.hid (Nat.sub_le _ _), rfl, BKa, BKb, HB⟩
  case round =>
    clear BKa BKb HB
    obtain ⟨n, hn, hg, rfl, BKa, BKb, HB⟩ := hrel
    by_cases hlt : n < 6
    · have hx := (BKa.out.cell n).trans (U_get (by rw [HL.out]; exact hlt))
      have hy := (BKb.out.cell n).trans (U_get (by rw [HL.out]; exact hlt))
      generalize l.getD n 0 = x at hx hy
      have hb0 : decide ((n : Int) < 6) = true := decide_eq_true (by omega)
      have hb1 : (n : Int) < 6 := by omega
      have hi0 : (0 : Int) ≤ (n : Int) := by omega
      have hnb : n < 9223372036854775807 := by omega
      have HN := Lib.hid hlt
      clear hlt hn
      go_wp2
      repeat (go_quiet (fail); try go_wp2)
      go_roundg (6 - (n + 1))
      case measure => have := hg.out; have := HN.out; omega
      case rel => exact ⟨n + 1, Lib.hid HN.out, Lib.hid (Nat.le_refl _), by first | rfl | go_num, Lib.hid (BKa.out.drewN _), Lib.hid (BKb.out.drewN _), Lib.hid (pw_below_drewN HB.out _)⟩
    · have en : n = 6 := by have := hn.out; omega
      subst en
      clear hn hg hlt
      go_wp2
      go_ret
      exact ⟨rfl, HB.out⟩

set_option maxHeartbeats 2000000 in
theorem eqVec_calls (l : List Int) (hl : l.length = 6) (w : World) : Calls Try.prog 24 #[.agg (U l).toArray, .agg (U l).toArray] w fun e w' => e = .returned (.bool true) ∧ Below w.heap.size w w' := by
  have HL := Lib.hid hl
  clear hl
  have HB := Lib.hid (Below.refl w.heap.size w)
  go_enter Try.func24, Try.ntmps24
  go_wp2_with (first
    | ((with_reducible refine gate_dst (N := 2) rfl ?_); refine box_event ?hg (N := 2) ?hd (cs := (U l).toArray) (t := 46) ?hr ?_; (case hd => rfl); (case hg => rfl); (case hr => first | (go_simp; done) | (go_simp; rfl)); intro ga hg Wa hbox hb; have GWa := Lib.hid ((by rw [hg]; exact below_size (w := w) (by repeat (first | (with_reducible first | exact HB.out | apply below_alloc | apply pw_below_drewN | apply below_drew) | exact HB.out))) : w.heap.size ≤ ga); have HB_n := Lib.hid (below_step (w := w) (by repeat (first | (with_reducible first | exact HB.out | apply below_alloc | apply pw_below_drewN | apply below_drew) | exact HB.out)) hb); clear HB; have HB := HB_n; clear HB_n; have BKa := Lib.hid (show Blk Wa ga 46 (U l) from hbox); clear hbox hg hb)
    | ((with_reducible refine gate_dst (N := 3) rfl ?_); refine box_event ?hg (N := 3) ?hd (cs := (U l).toArray) (t := 46) ?hr ?_; (case hd => rfl); (case hg => rfl); (case hr => first | (go_simp; done) | (go_simp; rfl)); intro gb hg Wb hbox hb; have GWb := Lib.hid ((by rw [hg]; exact below_size (w := w) (by repeat (first | (with_reducible first | exact HB.out | apply below_alloc | apply pw_below_drewN | apply below_drew) | exact HB.out))) : w.heap.size ≤ gb); have NEab : ga ≠ gb := (by rw [hg]; exact Nat.ne_of_lt (Blk.lt (by (with_reducible repeat (first | apply Blk.alloc | apply Blk.drewN | apply Blk.drew)); exact BKa.out))); have NEba : gb ≠ ga := NEab.symm; have BKa_n := Lib.hid (Blk.below (by (with_reducible repeat (first | apply Blk.alloc | apply Blk.drewN | apply Blk.drew)); exact BKa.out) hb); have HB_n := Lib.hid (below_step (w := w) (by repeat (first | (with_reducible first | exact HB.out | apply below_alloc | apply pw_below_drewN | apply below_drew) | exact HB.out)) hb); clear BKa; have BKa := BKa_n; clear BKa_n; clear HB; have HB := HB_n; clear HB_n; have BKb := Lib.hid (show Blk Wb gb 46 (U l) from hbox); clear hbox hg hb))
  go_loopg [5] 6 (fun gg v4 wr => ∃ n : Nat, Hid (n ≤ 6) ∧ Hid (6 - n ≤ gg) ∧ v4 = .int .i64 (n : Int) ∧ Hid (Blk wr ga 46 (U l)) ∧ Hid (Blk wr gb 46 (U l)) ∧ Hid (Below w.heap.size w wr))
  case atStart => exact ⟨0, Lib.hid (Nat.zero_le _), Lib.hid (Nat.sub_le _ _), rfl, BKa, BKb, HB⟩
  case round =>
    clear BKa BKb HB
    obtain ⟨n, hn, hg, rfl, BKa, BKb, HB⟩ := hrel
    by_cases hlt : n < 6
    · have hx := (BKa.out.cell n).trans (U_get (by rw [HL.out]; exact hlt))
      have hy := (BKb.out.cell n).trans (U_get (by rw [HL.out]; exact hlt))
      generalize l.getD n 0 = x at hx hy
      have hb0 : decide ((n : Int) < 6) = true := decide_eq_true (by omega)
      have hb1 : (n : Int) < 6 := by omega
      have hi0 : (0 : Int) ≤ (n : Int) := by omega
      have hnb : n < 9223372036854775807 := by omega
      have HN := Lib.hid hlt
      clear hlt hn
      go_wp2
      repeat (go_quiet (fail); try go_wp2)
      go_roundg (6 - (n + 1))
      case measure => have := hg.out; have := HN.out; omega
      case rel => exact ⟨n + 1, Lib.hid HN.out, Lib.hid (Nat.le_refl _), by first | rfl | go_num, Lib.hid (BKa.out.drewN _), Lib.hid (BKb.out.drewN _), Lib.hid (pw_below_drewN HB.out _)⟩
    · have en : n = 6 := by have := hn.out; omega
      subst en
      clear hn hg hlt
      go_wp2
      go_ret
      exact ⟨rfl, HB.out⟩

theorem part_get (l : List Int) (k j : Nat) (h : k + 6 ≤ l.length) (hj : j < 6) : ((l.drop k).take 6).getD j 0 = l.getD (k + j) 0 := by
  simp only [List.getD, List.getElem?_take, List.getElem?_drop, if_pos hj]
theorem six_of (l : List Int) (h : l.length = 6) : l = [l.getD 0 0, l.getD 1 0, l.getD 2 0, l.getD 3 0, l.getD 4 0, l.getD 5 0] := by
  match l, h with
  | [a, b, c, d, e, f], _ => rfl
set_option maxHeartbeats 4000000 in
set_option maxRecDepth 100000 in
theorem eqA66_calls (l : List Int) (hl : l.length = 36) (w : World) : Calls Try.prog 42 #[.agg (U l).toArray, .agg (U l).toArray] w fun e w' => e = .returned (.bool true) ∧ Below w.heap.size w w' := by
  have HL := Lib.hid hl
  clear hl
  have HB := Lib.hid (Below.refl w.heap.size w)
  go_enter Try.func42, Try.ntmps42
  go_wp2_with (first
    | ((with_reducible refine gate_dst (N := 2) rfl ?_); refine box_event ?hg (N := 2) ?hd (cs := (U l).toArray) (t := 27) ?hr ?_; (case hd => rfl); (case hg => rfl); (case hr => first | (go_simp; done) | (go_simp; rfl)); intro ga hg Wa hbox hb; have GWa := Lib.hid ((by rw [hg]; exact below_size (w := w) (by repeat (first | (with_reducible first | exact HB.out | apply below_alloc | apply pw_below_drewN | apply below_drew) | exact HB.out))) : w.heap.size ≤ ga); have HB_n := Lib.hid (below_step (w := w) (by repeat (first | (with_reducible first | exact HB.out | apply below_alloc | apply pw_below_drewN | apply below_drew) | exact HB.out)) hb); clear HB; have HB := HB_n; clear HB_n; have BKa := Lib.hid (show Blk Wa ga 27 (U l) from hbox); clear hbox hg hb)
    | ((with_reducible refine gate_dst (N := 3) rfl ?_); refine box_event ?hg (N := 3) ?hd (cs := (U l).toArray) (t := 27) ?hr ?_; (case hd => rfl); (case hg => rfl); (case hr => first | (go_simp; done) | (go_simp; rfl)); intro gb hg Wb hbox hb; have GWb := Lib.hid ((by rw [hg]; exact below_size (w := w) (by repeat (first | (with_reducible first | exact HB.out | apply below_alloc | apply pw_below_drewN | apply below_drew) | exact HB.out))) : w.heap.size ≤ gb); have NEab : ga ≠ gb := (by rw [hg]; exact Nat.ne_of_lt (Blk.lt (by (with_reducible repeat (first | apply Blk.alloc | apply Blk.drewN | apply Blk.drew)); exact BKa.out))); have NEba : gb ≠ ga := NEab.symm; have BKa_n := Lib.hid (Blk.below (by (with_reducible repeat (first | apply Blk.alloc | apply Blk.drewN | apply Blk.drew)); exact BKa.out) hb); have HB_n := Lib.hid (below_step (w := w) (by repeat (first | (with_reducible first | exact HB.out | apply below_alloc | apply pw_below_drewN | apply below_drew) | exact HB.out)) hb); clear BKa; have BKa := BKa_n; clear BKa_n; clear HB; have HB := HB_n; clear HB_n; have BKb := Lib.hid (show Blk Wb gb 27 (U l) from hbox); clear hbox hg hb))
  go_loopg [5] 6 (fun gg v4 wr => ∃ n : Nat, Hid (n ≤ 6) ∧ Hid (6 - n ≤ gg) ∧ v4 = .int .i64 (n : Int) ∧ Hid (Blk wr ga 27 (U l)) ∧ Hid (Blk wr gb 27 (U l)) ∧ Hid (Below w.heap.size w wr))
  case atStart => exact ⟨0, Lib.hid (Nat.zero_le _), Lib.hid (Nat.sub_le _ _), rfl, BKa, BKb, HB⟩
  case round =>
    clear BKa BKb HB
    obtain ⟨n, hn, hg, rfl, BKa, BKb, HB⟩ := hrel
    by_cases hlt : n < 6
    · have H6 : Hid (n * 6 + 6 ≤ l.length) := Lib.hid (by rw [HL.out]; omega)
      have hx0 : wr.cell? ⟨ga, n * 6, none⟩ = some (.int .u16 (l.getD (n * 6 + 0) 0)) := (BKa.out.cell (n * 6 + 0)).trans (U_get (by have := H6.out; omega))
      have hx1 : wr.cell? ⟨ga, n * 6 + 1, none⟩ = some (.int .u16 (l.getD (n * 6 + 1) 0)) := (BKa.out.cell (n * 6 + 1)).trans (U_get (by have := H6.out; omega))
      have hx2 : wr.cell? ⟨ga, n * 6 + 2, none⟩ = some (.int .u16 (l.getD (n * 6 + 2) 0)) := (BKa.out.cell (n * 6 + 2)).trans (U_get (by have := H6.out; omega))
      have hx3 : wr.cell? ⟨ga, n * 6 + 3, none⟩ = some (.int .u16 (l.getD (n * 6 + 3) 0)) := (BKa.out.cell (n * 6 + 3)).trans (U_get (by have := H6.out; omega))
      have hx4 : wr.cell? ⟨ga, n * 6 + 4, none⟩ = some (.int .u16 (l.getD (n * 6 + 4) 0)) := (BKa.out.cell (n * 6 + 4)).trans (U_get (by have := H6.out; omega))
      have hx5 : wr.cell? ⟨ga, n * 6 + 5, none⟩ = some (.int .u16 (l.getD (n * 6 + 5) 0)) := (BKa.out.cell (n * 6 + 5)).trans (U_get (by have := H6.out; omega))
      have hy0 : wr.cell? ⟨gb, n * 6, none⟩ = some (.int .u16 (l.getD (n * 6 + 0) 0)) := (BKb.out.cell (n * 6 + 0)).trans (U_get (by have := H6.out; omega))
      have hy1 : wr.cell? ⟨gb, n * 6 + 1, none⟩ = some (.int .u16 (l.getD (n * 6 + 1) 0)) := (BKb.out.cell (n * 6 + 1)).trans (U_get (by have := H6.out; omega))
      have hy2 : wr.cell? ⟨gb, n * 6 + 2, none⟩ = some (.int .u16 (l.getD (n * 6 + 2) 0)) := (BKb.out.cell (n * 6 + 2)).trans (U_get (by have := H6.out; omega))
      have hy3 : wr.cell? ⟨gb, n * 6 + 3, none⟩ = some (.int .u16 (l.getD (n * 6 + 3) 0)) := (BKb.out.cell (n * 6 + 3)).trans (U_get (by have := H6.out; omega))
      have hy4 : wr.cell? ⟨gb, n * 6 + 4, none⟩ = some (.int .u16 (l.getD (n * 6 + 4) 0)) := (BKb.out.cell (n * 6 + 4)).trans (U_get (by have := H6.out; omega))
      have hy5 : wr.cell? ⟨gb, n * 6 + 5, none⟩ = some (.int .u16 (l.getD (n * 6 + 5) 0)) := (BKb.out.cell (n * 6 + 5)).trans (U_get (by have := H6.out; omega))
      have HE := Lib.hid (fun W => eqA6_calls ((l.drop (n * 6)).take 6) (part_length _ _ _ H6.out) W)
      rw [six_of ((l.drop (n * 6)).take 6) (part_length _ _ _ H6.out), part_get _ _ _ H6.out (by omega), part_get _ _ _ H6.out (by omega), part_get _ _ _ H6.out (by omega), part_get _ _ _ H6.out (by omega), part_get _ _ _ H6.out (by omega), part_get _ _ _ H6.out (by omega)] at HE
      generalize l.getD (n * 6 + 0) 0 = x0 at hx0 hy0 HE
      generalize l.getD (n * 6 + 1) 0 = x1 at hx1 hy1 HE
      generalize l.getD (n * 6 + 2) 0 = x2 at hx2 hy2 HE
      generalize l.getD (n * 6 + 3) 0 = x3 at hx3 hy3 HE
      generalize l.getD (n * 6 + 4) 0 = x4 at hx4 hy4 HE
      generalize l.getD (n * 6 + 5) 0 = x5 at hx5 hy5 HE
      have HE2 : Hid (∀ W : World, Calls Try.prog 76 #[.agg #[.int .u16 x0, .int .u16 x1, .int .u16 x2, .int .u16 x3, .int .u16 x4, .int .u16 x5], .agg #[.int .u16 x0, .int .u16 x1, .int .u16 x2, .int .u16 x3, .int .u16 x4, .int .u16 x5]] W fun e w' => e = .returned (.bool true) ∧ Below W.heap.size W w') := Lib.hid (fun W => HE.out W)
      clear HE
      have hb0 : decide ((n : Int) < 6) = true := decide_eq_true (by omega)
      have hb1 : (n : Int) < 6 := by omega
      have hi0 : (0 : Int) ≤ (n : Int) := by omega
      have hnb : n < 9223372036854775807 := by omega
      have HN := Lib.hid hlt
      clear hlt hn
      go_wp2_with fail
      go_region_held3 (fun w' => w'.cell? ⟨ga, n * 6, none⟩ = some (.int .u16 x0) ∧ w'.cell? ⟨ga, n * 6 + 1, none⟩ = some (.int .u16 x1) ∧ w'.cell? ⟨ga, n * 6 + 2, none⟩ = some (.int .u16 x2) ∧ w'.cell? ⟨ga, n * 6 + 3, none⟩ = some (.int .u16 x3) ∧ w'.cell? ⟨ga, n * 6 + 4, none⟩ = some (.int .u16 x4) ∧ w'.cell? ⟨ga, n * 6 + 5, none⟩ = some (.int .u16 x5) ∧ w'.cell? ⟨gb, n * 6, none⟩ = some (.int .u16 x0) ∧ w'.cell? ⟨gb, n * 6 + 1, none⟩ = some (.int .u16 x1) ∧ w'.cell? ⟨gb, n * 6 + 2, none⟩ = some (.int .u16 x2) ∧ w'.cell? ⟨gb, n * 6 + 3, none⟩ = some (.int .u16 x3) ∧ w'.cell? ⟨gb, n * 6 + 4, none⟩ = some (.int .u16 x4) ∧ w'.cell? ⟨gb, n * 6 + 5, none⟩ = some (.int .u16 x5)) (first | go_keep | exact ⟨pw_cell_below hb hx0, pw_cell_below hb hx1, pw_cell_below hb hx2, pw_cell_below hb hx3, pw_cell_below hb hx4, pw_cell_below hb hx5, pw_cell_below hb hy0, pw_cell_below hb hy1, pw_cell_below hb hy2, pw_cell_below hb hy3, pw_cell_below hb hy4, pw_cell_below hb hy5⟩)
        (first | (go_at_call 76; (with_reducible refine (HE2.out _).mono ?_); rintro e w' ⟨rfl, hb⟩))
      go_wp2
      go_roundg (6 - (n + 1))
      case measure => have := hg.out; have := HN.out; omega
      case rel => exact ⟨n + 1, Lib.hid HN.out, Lib.hid (Nat.le_refl _), by first | rfl | go_num, Lib.hid ((BKa.out.drew).below hb), Lib.hid ((BKb.out.drew).below hb), Lib.hid (below_step (below_drew HB.out) hb)⟩
    · have en : n = 6 := by have := hn.out; omega
      subst en
      clear hn hg hlt
      go_wp2
      go_ret
      exact ⟨rfl, HB.out⟩

set_option maxHeartbeats 2000000 in
set_option maxRecDepth 100000 in
theorem eqM_calls (r c : Int) (l : List Int) (hl : l.length = 36) (w : World) : Calls Try.prog 14 #[.agg (M r c l).toArray, .agg (M r c l).toArray] w fun e w' => e = .returned (.bool true) ∧ Below w.heap.size w w' := by
  have HL := Lib.hid hl
  clear hl
  have HB := Lib.hid (Below.refl w.heap.size w)
  go_enter Try.func14, Try.ntmps14
  go_wp2_with (first
    | ((with_reducible refine gate_dst (N := 2) rfl ?_); refine box_event ?hg (N := 2) ?hd (cs := (M r c l).toArray) (t := 29) ?hr ?_; (case hd => rfl); (case hg => rfl); (case hr => first | (go_simp; done) | (go_simp; rfl)); intro ga hg Wa hbox hb; have GWa := Lib.hid ((by rw [hg]; exact below_size (w := w) (by repeat (first | (with_reducible first | exact HB.out | apply below_alloc | apply pw_below_drewN | apply below_drew) | exact HB.out))) : w.heap.size ≤ ga); have HB_n := Lib.hid (below_step (w := w) (by repeat (first | (with_reducible first | exact HB.out | apply below_alloc | apply pw_below_drewN | apply below_drew) | exact HB.out)) hb); clear HB; have HB := HB_n; clear HB_n; have BKa := Lib.hid (show Blk Wa ga 29 (M r c l) from hbox); clear hbox hg hb)
    | ((with_reducible refine gate_dst (N := 3) rfl ?_); refine box_event ?hg (N := 3) ?hd (cs := (M r c l).toArray) (t := 29) ?hr ?_; (case hd => rfl); (case hg => rfl); (case hr => first | (go_simp; done) | (go_simp; rfl)); intro gb hg Wb hbox hb; have GWb := Lib.hid ((by rw [hg]; exact below_size (w := w) (by repeat (first | (with_reducible first | exact HB.out | apply below_alloc | apply pw_below_drewN | apply below_drew) | exact HB.out))) : w.heap.size ≤ gb); have NEab : ga ≠ gb := (by rw [hg]; exact Nat.ne_of_lt (Blk.lt (by (with_reducible repeat (first | apply Blk.alloc | apply Blk.drewN | apply Blk.drew)); exact BKa.out))); have NEba : gb ≠ ga := NEab.symm; have BKa_n := Lib.hid (Blk.below (by (with_reducible repeat (first | apply Blk.alloc | apply Blk.drewN | apply Blk.drew)); exact BKa.out) hb); have HB_n := Lib.hid (below_step (w := w) (by repeat (first | (with_reducible first | exact HB.out | apply below_alloc | apply pw_below_drewN | apply below_drew) | exact HB.out)) hb); clear BKa; have BKa := BKa_n; clear BKa_n; clear HB; have HB := HB_n; clear HB_n; have BKb := Lib.hid (show Blk Wb gb 29 (M r c l) from hbox); clear hbox hg hb; have hx0 : Wb.cell? ⟨ga, 0, none⟩ = some (.int .i8 r) := BKa.out.cell 0; have hx1 : Wb.cell? ⟨ga, 1, none⟩ = some (.int .i8 c) := BKa.out.cell 1; have hy0 : Wb.cell? ⟨gb, 0, none⟩ = some (.int .i8 r) := BKb.out.cell 0; have hy1 : Wb.cell? ⟨gb, 1, none⟩ = some (.int .i8 c) := BKb.out.cell 1)
    | ((with_reducible refine wpList_ldpart rfl 27 (.tmp 15) rfl ga (2) 36 ?hx (U l) 29 (M r c l) _ ?hB Try.underlying27 rfl inf27 ?hf ?hs ?_); (case hx => rfl); (case hB => exact (by (with_reducible repeat (first | apply Blk.alloc | apply Blk.drewN | apply Blk.drew)); exact BKa.out)); (case hf => rw [M_length, HL.out]; exact Nat.le_refl _); (case hs => exact M_cells r c l 36 HL.out))
    | ((with_reducible refine wpList_ldpart rfl 27 (.tmp 17) rfl gb (2) 36 ?hx (U l) 29 (M r c l) _ ?hB Try.underlying27 rfl inf27 ?hf ?hs ?_); (case hx => rfl); (case hB => exact (by (with_reducible repeat (first | apply Blk.alloc | apply Blk.drewN | apply Blk.drew)); exact BKb.out)); (case hf => rw [M_length, HL.out]; exact Nat.le_refl _); (case hs => exact M_cells r c l 36 HL.out))
    | (go_at_call 42; (with_reducible refine (eqA66_calls l HL.out _).mono ?_); rintro e W_ ⟨rfl, hb⟩; have BKa_n := Lib.hid (Blk.below (by (with_reducible repeat (first | apply Blk.alloc | apply Blk.drewN | apply Blk.drew)); exact BKa.out) hb); have BKb_n := Lib.hid (Blk.below (by (with_reducible repeat (first | apply Blk.alloc | apply Blk.drewN | apply Blk.drew)); exact BKb.out) hb); have HB_n := Lib.hid (below_step (w := w) (by repeat (first | (with_reducible first | exact HB.out | apply below_alloc | apply pw_below_drewN | apply below_drew) | exact HB.out)) hb); clear BKa; have BKa := BKa_n; clear BKa_n; clear BKb; have BKb := BKb_n; clear BKb_n; clear HB; have HB := HB_n; clear HB_n; clear hb))
  go_ret
  exact ⟨rfl, HB.out⟩

end Go.Proofs.Ythjbeglmdifhdaa.Given
