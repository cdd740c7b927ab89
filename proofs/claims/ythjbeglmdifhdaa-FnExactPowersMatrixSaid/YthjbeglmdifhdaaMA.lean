/- Walks of functions that the print does not take. -/
import Derived.Test.YthjbeglmdifhdaaProg
import Derived.Below
import Derived.Deep.Draws
import Derived.Deep.AppendLies
import Derived.Maps.AppendAt
import Derived.OwnWalk
import Derived.Laws.BytesArg
import Derived.Laws.MakeOwn
import Derived.Laws.OwnMore
import Derived.Deep.OwnRows
import Derived.Tactics
import Derived.Lib.ConvBytes
import Derived.Laws.Slices
import Derived.WalkKit
import Derived.KernelRfl
import Derived.RowKit3
import Derived.Deep.LoopGhost
import Derived.Deep.QuietTactic
import Derived.BigQuiet
import Derived.WideLaws
import Derived.Deep.DeepCutAuto
import Derived.Deep.CutBlock
import Derived.Deep.RegionHeld3
import Derived.Laws.Rows
import Derived.Lib.AppendStr
import Derived.ArgAppend
import Derived.Laws.IdiomCopy
import Derived.OrdersHeld
import Derived.Laws.BitsLemmas
import Derived.RowKit
import Derived.Lib.Hide
import Derived.WalkSpells
import Derived.Test.YthjbeglmdifhdaaWWords
import Derived.Test.YthjbeglmdifhdaaWLast
import Derived.Test.YthjbeglmdifhdaaWTab
import Derived.Test.YthjbeglmdifhdaaWFour
import Derived.Test.YthjbeglmdifhdaaWQPut
import Derived.Test.YthjbeglmdifhdaaWApart
import Derived.Test.YthjbeglmdifhdaaWArr
import Derived.Test.YthjbeglmdifhdaaWZeros
import Derived.Test.YthjbeglmdifhdaaWFoot
import Derived.Test.YthjbeglmdifhdaaWKept
import Derived.Test.YthjbeglmdifhdaaWShare
import Derived.Test.YthjbeglmdifhdaaWN
import Derived.Test.YthjbeglmdifhdaaWFootNe
import Derived.Test.YthjbeglmdifhdaaWAt
import Derived.Test.YthjbeglmdifhdaaWEqStruct
import Derived.Test.YthjbeglmdifhdaaWRepsOne
import Derived.Test.YthjbeglmdifhdaaWInv
import Derived.Test.YthjbeglmdifhdaaWInvWords
import Derived.Test.YthjbeglmdifhdaaWGuard
import Derived.Test.YthjbeglmdifhdaaWNEv
import Derived.Test.YthjbeglmdifhdaaWMore
import Derived.Test.YthjbeglmdifhdaaN1
import Derived.Test.YthjbeglmdifhdaaMXW
namespace Go.Proofs.Ythjbeglmdifhdaa.Given
open Go.RowKit Go.Proofs.YthjbeglmdifhdaaW.PrintWords Go.Proofs.YthjbeglmdifhdaaW.PrintLast Go.Proofs.YthjbeglmdifhdaaW.PrintMore Go.Proofs.Ythjbeglmdifhdaa.NimF Go.Proofs.Ythjbeglmdifhdaa.NimGo
set_option linter.unusedVariables false
set_option linter.unusedSimpArgs false
set_option maxHeartbeats 2000000 in
theorem toA6_calls (l : List Int) (hl : l.length = 6) (w : World) : Calls Try.prog 77 #[.agg (U l).toArray] w fun e w' => e = .returned (.agg (U l).toArray) ∧ Below w.heap.size w w' := by
  have HL := Lib.hid hl
  clear hl
  have HB := Lib.hid (Below.refl w.heap.size w)
  go_enter Try.func77, Try.ntmps77
  go_wp2_with (first
    | ((with_reducible refine gate_dst (N := 1) rfl ?_); refine box_event ?hg (N := 1) ?hd (cs := (U l).toArray) (t := 37) ?hr ?_; (case hd => rfl); (case hg => rfl); (case hr => first | (go_simp; done) | (go_simp; rfl)); intro ga hg Wa hbox hb; have GWa := Lib.hid ((by rw [hg]; exact below_size (w := w) (by repeat (first | (with_reducible first | exact HB.out | apply below_alloc | apply pw_below_drewN | apply below_drew) | exact HB.out))) : w.heap.size ≤ ga); have HB_n := Lib.hid (below_step (w := w) (by repeat (first | (with_reducible first | exact HB.out | apply below_alloc | apply pw_below_drewN | apply below_drew) | exact HB.out)) hb); clear HB; have HB := HB_n; clear HB_n; have BKa := Lib.hid (show Blk Wa ga 37 (U l) from hbox); clear hbox hg hb)
    | ((with_reducible refine gate_dst (N := 2) rfl ?_); refine box_event ?hg (N := 2) ?hd (cs := (U (List.replicate 6 0)).toArray) (t := 26) ?hr ?_; (case hd => rfl); (case hg => rfl); (case hr => first | (go_simp; done) | (go_simp; rfl)); intro gr hg Wr hbox hb; have GWr := Lib.hid ((by rw [hg]; exact below_size (w := w) (by repeat (first | (with_reducible first | exact HB.out | apply below_alloc | apply pw_below_drewN | apply below_drew) | exact HB.out))) : w.heap.size ≤ gr); have NEar : ga ≠ gr := (by rw [hg]; exact Nat.ne_of_lt (Blk.lt (by (with_reducible repeat (first | apply Blk.alloc | apply Blk.drewN | apply Blk.drew)); exact BKa.out))); have NEra : gr ≠ ga := NEar.symm; have BKa_n := Lib.hid (Blk.below (by (with_reducible repeat (first | apply Blk.alloc | apply Blk.drewN | apply Blk.drew)); exact BKa.out) hb); have HB_n := Lib.hid (below_step (w := w) (by repeat (first | (with_reducible first | exact HB.out | apply below_alloc | apply pw_below_drewN | apply below_drew) | exact HB.out)) hb); clear BKa; have BKa := BKa_n; clear BKa_n; clear HB; have HB := HB_n; clear HB_n; have BKr := Lib.hid (show Blk Wr gr 26 (U (List.replicate 6 0)) from hbox); clear hbox hg hb)
    | ((with_reducible refine gate_dst (N := 3) rfl ?_); refine box_event ?hg (N := 3) ?hd (cs := (U (List.replicate 6 0)).toArray) (t := 26) ?hr ?_; (case hd => rfl); (case hg => rfl); (case hr => first | (go_simp; done) | (go_simp; rfl)); intro go hg Wo hbox hb; have GWo := Lib.hid ((by rw [hg]; exact below_size (w := w) (by repeat (first | (with_reducible first | exact HB.out | apply below_alloc | apply pw_below_drewN | apply below_drew) | exact HB.out))) : w.heap.size ≤ go); have NEao : ga ≠ go := (by rw [hg]; exact Nat.ne_of_lt (Blk.lt (by (with_reducible repeat (first | apply Blk.alloc | apply Blk.drewN | apply Blk.drew)); exact BKa.out))); have NEoa : go ≠ ga := NEao.symm; have NEro : gr ≠ go := (by rw [hg]; exact Nat.ne_of_lt (Blk.lt (by (with_reducible repeat (first | apply Blk.alloc | apply Blk.drewN | apply Blk.drew)); exact BKr.out))); have NEor : go ≠ gr := NEro.symm; have BKa_n := Lib.hid (Blk.below (by (with_reducible repeat (first | apply Blk.alloc | apply Blk.drewN | apply Blk.drew)); exact BKa.out) hb); have BKr_n := Lib.hid (Blk.below (by (with_reducible repeat (first | apply Blk.alloc | apply Blk.drewN | apply Blk.drew)); exact BKr.out) hb); have HB_n := Lib.hid (below_step (w := w) (by repeat (first | (with_reducible first | exact HB.out | apply below_alloc | apply pw_below_drewN | apply below_drew) | exact HB.out)) hb); clear BKa; have BKa := BKa_n; clear BKa_n; clear BKr; have BKr := BKr_n; clear BKr_n; clear HB; have HB := HB_n; clear HB_n; have BKo := Lib.hid (show Blk Wo go 26 (U (List.replicate 6 0)) from hbox); clear hbox hg hb))
  go_loopg [4] 6 (fun gg v4 wr => ∃ n : Nat, Hid (n ≤ 6) ∧ Hid (6 - n ≤ gg) ∧ v4 = .int .i64 (n : Int) ∧ Hid (Blk wr ga 37 (U l)) ∧ Hid (Blk wr gr 26 (U (List.replicate 6 0))) ∧ Hid (Blk wr go 26 (U (pre l n))) ∧ Hid (Below w.heap.size w wr))
  case atStart => exact ⟨0, Lib.hid (Nat.zero_le _), Lib.hid (Nat.sub_le _ _), rfl, BKa, BKr, by rw [pre_zero, HL.out]; exact BKo, HB⟩
  case round =>
    clear BKa BKr BKo HB
    obtain ⟨n, hn, hg, rfl, BKa, BKr, BKo, HB⟩ := hrel
    by_cases hlt : n < 6
    · have hx := (BKa.out.cell n).trans (U_get (by rw [HL.out]; exact hlt))
      have hy := (BKo.out.cell n).trans (U_get (by rw [pre_length _ _ (by rw [HL.out]; omega), HL.out]; exact hlt))
      have hf := BKo.out.frozen n
      have TS := Lib.hid (pre_set l n (by rw [HL.out]; exact hlt))
      generalize l.getD n 0 = x at hx TS
      generalize (pre l n).getD n 0 = y at hy
      have hb0 : decide ((n : Int) < 6) = true := decide_eq_true (by omega)
      have hb1 : (n : Int) < 6 := by omega
      have hi0 : (0 : Int) ≤ (n : Int) := by omega
      have hnb : n < 9223372036854775807 := by omega
      have HN := Lib.hid hlt
      clear hlt hn
      go_wp2
      go_roundg (6 - (n + 1))
      case measure => have := hg.out; have := HN.out; omega
      case rel => exact ⟨n + 1, Lib.hid HN.out, Lib.hid (Nat.le_refl _), by first | rfl | go_num, Lib.hid (BKa.out.far NEao _ _), Lib.hid (BKr.out.far NEro _ _), Lib.hid (by rw [← TS.out, ← U_set]; exact BKo.out.set _ _), Lib.hid (below_set HB.out GWo.out)⟩
    · have en : n = 6 := by have := hn.out; omega
      subst en
      have BKo2 : Hid (Blk wr go 26 (U l)) := Lib.hid (by have := BKo.out; rw [← HL.out, pre_all] at this; exact this)
      clear BKo hn hg hlt
      have BKo := BKo2
      clear BKo2
      go_wp2_with (first
    | ((with_reducible refine wpList_ldall rfl 26 (.tmp 3) rfl go ?hx 26 (U l) _ ?hB Try.underlying26 rfl ?hi ?_); (case hx => rfl); (case hB => exact (by (with_reducible repeat (first | apply Blk.alloc | apply Blk.drewN | apply Blk.drew)); exact BKo.out)); (case hi => rw [U_length, HL.out]; exact inf26))
    | ((with_reducible refine wpList_stall rfl 26 2 _ rfl rfl gr ?hx (U l) ?hy 26 (U (List.replicate 6 0)) ?hB ?hi ?hf (U_one _) ?_); (case hx => rfl); (case hy => rfl); (case hB => exact (by (with_reducible repeat (first | apply Blk.alloc | apply Blk.drewN | apply Blk.drew)); exact BKr.out)); (case hi => rw [U_length, HL.out]; exact inf26); (case hf => rw [U_length, HL.out]; rfl); intro W_ hbk hfar hbel; have BKo_n := Lib.hid (Blk.other (by (with_reducible repeat (first | apply Blk.alloc | apply Blk.drewN | apply Blk.drew)); exact BKo.out) hfar NEor); have HB_n := Lib.hid (hbel _ _ (by repeat (first | (with_reducible first | exact HB.out | apply below_alloc | apply pw_below_drewN | apply below_drew) | exact HB.out)) GWr.out); have BKr_n := Lib.hid (hbk); clear BKo; have BKo := BKo_n; clear BKo_n; clear HB; have HB := HB_n; clear HB_n; clear BKr; have BKr := BKr_n; clear BKr_n; clear hbk hfar hbel))
      exact bodyPost_ret (results_cell_row Try.results77 _ _ gr 26 _ (0, 0) _ rfl BKr.out Try.underlying26 rfl (by simp only [List.size_toArray]; rw [U_length, HL.out]; exact inf26)) rfl ⟨rfl, HB.out⟩

set_option maxHeartbeats 2000000 in
theorem toVec_calls (l : List Int) (hl : l.length = 6) (w : World) : Calls Try.prog 20 #[.agg (U l).toArray] w fun e w' => e = .returned (.agg (U l).toArray) ∧ Below w.heap.size w w' := by
  have HL := Lib.hid hl
  clear hl
  have HB := Lib.hid (Below.refl w.heap.size w)
  go_enter Try.func20, Try.ntmps20
  go_wp2_with (first
    | ((with_reducible refine gate_dst (N := 1) rfl ?_); refine box_event ?hg (N := 1) ?hd (cs := (U l).toArray) (t := 37) ?hr ?_; (case hd => rfl); (case hg => rfl); (case hr => first | (go_simp; done) | (go_simp; rfl)); intro ga hg Wa hbox hb; have GWa := Lib.hid ((by rw [hg]; exact below_size (w := w) (by repeat (first | (with_reducible first | exact HB.out | apply below_alloc | apply pw_below_drewN | apply below_drew) | exact HB.out))) : w.heap.size ≤ ga); have HB_n := Lib.hid (below_step (w := w) (by repeat (first | (with_reducible first | exact HB.out | apply below_alloc | apply pw_below_drewN | apply below_drew) | exact HB.out)) hb); clear HB; have HB := HB_n; clear HB_n; have BKa := Lib.hid (show Blk Wa ga 37 (U l) from hbox); clear hbox hg hb)
    | ((with_reducible refine gate_dst (N := 2) rfl ?_); refine box_event ?hg (N := 2) ?hd (cs := (U (List.replicate 6 0)).toArray) (t := 46) ?hr ?_; (case hd => rfl); (case hg => rfl); (case hr => first | (go_simp; done) | (go_simp; rfl)); intro gr hg Wr hbox hb; have GWr := Lib.hid ((by rw [hg]; exact below_size (w := w) (by repeat (first | (with_reducible first | exact HB.out | apply below_alloc | apply pw_below_drewN | apply below_drew) | exact HB.out))) : w.heap.size ≤ gr); have NEar : ga ≠ gr := (by rw [hg]; exact Nat.ne_of_lt (Blk.lt (by (with_reducible repeat (first | apply Blk.alloc | apply Blk.drewN | apply Blk.drew)); exact BKa.out))); have NEra : gr ≠ ga := NEar.symm; have BKa_n := Lib.hid (Blk.below (by (with_reducible repeat (first | apply Blk.alloc | apply Blk.drewN | apply Blk.drew)); exact BKa.out) hb); have HB_n := Lib.hid (below_step (w := w) (by repeat (first | (with_reducible first | exact HB.out | apply below_alloc | apply pw_below_drewN | apply below_drew) | exact HB.out)) hb); clear BKa; have BKa := BKa_n; clear BKa_n; clear HB; have HB := HB_n; clear HB_n; have BKr := Lib.hid (show Blk Wr gr 46 (U (List.replicate 6 0)) from hbox); clear hbox hg hb)
    | ((with_reducible refine gate_dst (N := 3) rfl ?_); refine box_event ?hg (N := 3) ?hd (cs := (U (List.replicate 6 0)).toArray) (t := 46) ?hr ?_; (case hd => rfl); (case hg => rfl); (case hr => first | (go_simp; done) | (go_simp; rfl)); intro go hg Wo hbox hb; have GWo := Lib.hid ((by rw [hg]; exact below_size (w := w) (by repeat (first | (with_reducible first | exact HB.out | apply below_alloc | apply pw_below_drewN | apply below_drew) | exact HB.out))) : w.heap.size ≤ go); have NEao : ga ≠ go := (by rw [hg]; exact Nat.ne_of_lt (Blk.lt (by (with_reducible repeat (first | apply Blk.alloc | apply Blk.drewN | apply Blk.drew)); exact BKa.out))); have NEoa : go ≠ ga := NEao.symm; have NEro : gr ≠ go := (by rw [hg]; exact Nat.ne_of_lt (Blk.lt (by (with_reducible repeat (first | apply Blk.alloc | apply Blk.drewN | apply Blk.drew)); exact BKr.out))); have NEor : go ≠ gr := NEro.symm; have BKa_n := Lib.hid (Blk.below (by (with_reducible repeat (first | apply Blk.alloc | apply Blk.drewN | apply Blk.drew)); exact BKa.out) hb); have BKr_n := Lib.hid (Blk.below (by (with_reducible repeat (first | apply Blk.alloc | apply Blk.drewN | apply Blk.drew)); exact BKr.out) hb); have HB_n := Lib.hid (below_step (w := w) (by repeat (first | (with_reducible first | exact HB.out | apply below_alloc | apply pw_below_drewN | apply below_drew) | exact HB.out)) hb); clear BKa; have BKa := BKa_n; clear BKa_n; clear BKr; have BKr := BKr_n; clear BKr_n; clear HB; have HB := HB_n; clear HB_n; have BKo := Lib.hid (show Blk Wo go 46 (U (List.replicate 6 0)) from hbox); clear hbox hg hb))
  go_loopg [4] 6 (fun gg v4 wr => ∃ n : Nat, Hid (n ≤ 6) ∧ Hid (6 - n ≤ gg) ∧ v4 = .int .i64 (n : Int) ∧ Hid (Blk wr ga 37 (U l)) ∧ Hid (Blk wr gr 46 (U (List.replicate 6 0))) ∧ Hid (Blk wr go 46 (U (pre l n))) ∧ Hid (Below w.heap.size w wr))
  case atStart => exact ⟨0, Lib.hid (Nat.zero_le _), Lib.hid (Nat.sub_le _ _), rfl, BKa, BKr, by rw [pre_zero, HL.out]; exact BKo, HB⟩
  case round =>
    clear BKa BKr BKo HB
    obtain ⟨n, hn, hg, rfl, BKa, BKr, BKo, HB⟩ := hrel
    by_cases hlt : n < 6
    · have hx := (BKa.out.cell n).trans (U_get (by rw [HL.out]; exact hlt))
      have hy := (BKo.out.cell n).trans (U_get (by rw [pre_length _ _ (by rw [HL.out]; omega), HL.out]; exact hlt))
      have hf := BKo.out.frozen n
      have TS := Lib.hid (pre_set l n (by rw [HL.out]; exact hlt))
      generalize l.getD n 0 = x at hx TS
      generalize (pre l n).getD n 0 = y at hy
      have hb0 : decide ((n : Int) < 6) = true := decide_eq_true (by omega)
      have hb1 : (n : Int) < 6 := by omega
      have hi0 : (0 : Int) ≤ (n : Int) := by omega
      have hnb : n < 9223372036854775807 := by omega
      have HN := Lib.hid hlt
      clear hlt hn
      go_wp2
      go_roundg (6 - (n + 1))
      case measure => have := hg.out; have := HN.out; omega
      case rel => exact ⟨n + 1, Lib.hid HN.out, Lib.hid (Nat.le_refl _), by first | rfl | go_num, Lib.hid (BKa.out.far NEao _ _), Lib.hid (BKr.out.far NEro _ _), Lib.hid (by rw [← TS.out, ← U_set]; exact BKo.out.set _ _), Lib.hid (below_set HB.out GWo.out)⟩
    · have en : n = 6 := by have := hn.out; omega
      subst en
      have BKo2 : Hid (Blk wr go 46 (U l)) := Lib.hid (by have := BKo.out; rw [← HL.out, pre_all] at this; exact this)
      clear BKo hn hg hlt
      have BKo := BKo2
      clear BKo2
      go_wp2_with (first
    | ((with_reducible refine wpList_ldall rfl 46 (.tmp 3) rfl go ?hx 46 (U l) _ ?hB Try.underlying46 rfl ?hi ?_); (case hx => rfl); (case hB => exact (by (with_reducible repeat (first | apply Blk.alloc | apply Blk.drewN | apply Blk.drew)); exact BKo.out)); (case hi => rw [U_length, HL.out]; exact inf46))
    | ((with_reducible refine wpList_stall rfl 46 2 _ rfl rfl gr ?hx (U l) ?hy 46 (U (List.replicate 6 0)) ?hB ?hi ?hf (U_one _) ?_); (case hx => rfl); (case hy => rfl); (case hB => exact (by (with_reducible repeat (first | apply Blk.alloc | apply Blk.drewN | apply Blk.drew)); exact BKr.out)); (case hi => rw [U_length, HL.out]; exact inf46); (case hf => rw [U_length, HL.out]; rfl); intro W_ hbk hfar hbel; have BKo_n := Lib.hid (Blk.other (by (with_reducible repeat (first | apply Blk.alloc | apply Blk.drewN | apply Blk.drew)); exact BKo.out) hfar NEor); have HB_n := Lib.hid (hbel _ _ (by repeat (first | (with_reducible first | exact HB.out | apply below_alloc | apply pw_below_drewN | apply below_drew) | exact HB.out)) GWr.out); have BKr_n := Lib.hid (hbk); clear BKo; have BKo := BKo_n; clear BKo_n; clear HB; have HB := HB_n; clear HB_n; clear BKr; have BKr := BKr_n; clear BKr_n; clear hbk hfar hbel))
      exact bodyPost_ret (results_cell_row Try.results20 _ _ gr 46 _ (0, 0) _ rfl BKr.out Try.underlying46 rfl (by simp only [List.size_toArray]; rw [U_length, HL.out]; exact inf46)) rfl ⟨rfl, HB.out⟩

set_option maxHeartbeats 4000000 in
set_option maxRecDepth 100000 in
theorem toA66_calls (l : List Int) (hl : l.length = 36) (w : World) : Calls Try.prog 44 #[.agg (U l).toArray] w fun e w' => e = .returned (.agg (U l).toArray) ∧ Below w.heap.size w w' := by
  have HL := Lib.hid hl
  clear hl
  have HB := Lib.hid (Below.refl w.heap.size w)
  go_enter Try.func44, Try.ntmps44
  go_wp2_with (first
    | ((with_reducible refine gate_dst (N := 1) rfl ?_); refine box_event ?hg (N := 1) ?hd (cs := (U l).toArray) (t := 38) ?hr ?_; (case hd => rfl); (case hg => rfl); (case hr => first | (go_simp; done) | (go_simp; rfl)); intro ga hg Wa hbox hb; have GWa := Lib.hid ((by rw [hg]; exact below_size (w := w) (by repeat (first | (with_reducible first | exact HB.out | apply below_alloc | apply pw_below_drewN | apply below_drew) | exact HB.out))) : w.heap.size ≤ ga); have HB_n := Lib.hid (below_step (w := w) (by repeat (first | (with_reducible first | exact HB.out | apply below_alloc | apply pw_below_drewN | apply below_drew) | exact HB.out)) hb); clear HB; have HB := HB_n; clear HB_n; have BKa := Lib.hid (show Blk Wa ga 38 (U l) from hbox); clear hbox hg hb)
    | ((with_reducible refine gate_dst (N := 2) rfl ?_); refine box_event ?hg (N := 2) ?hd (cs := (U (List.replicate 36 0)).toArray) (t := 27) ?hr ?_; (case hd => rfl); (case hg => rfl); (case hr => first | (go_simp; done) | (go_simp; rfl)); intro gr hg Wr hbox hb; have GWr := Lib.hid ((by rw [hg]; exact below_size (w := w) (by repeat (first | (with_reducible first | exact HB.out | apply below_alloc | apply pw_below_drewN | apply below_drew) | exact HB.out))) : w.heap.size ≤ gr); have NEar : ga ≠ gr := (by rw [hg]; exact Nat.ne_of_lt (Blk.lt (by (with_reducible repeat (first | apply Blk.alloc | apply Blk.drewN | apply Blk.drew)); exact BKa.out))); have NEra : gr ≠ ga := NEar.symm; have BKa_n := Lib.hid (Blk.below (by (with_reducible repeat (first | apply Blk.alloc | apply Blk.drewN | apply Blk.drew)); exact BKa.out) hb); have HB_n := Lib.hid (below_step (w := w) (by repeat (first | (with_reducible first | exact HB.out | apply below_alloc | apply pw_below_drewN | apply below_drew) | exact HB.out)) hb); clear BKa; have BKa := BKa_n; clear BKa_n; clear HB; have HB := HB_n; clear HB_n; have BKr := Lib.hid (show Blk Wr gr 27 (U (List.replicate 36 0)) from hbox); clear hbox hg hb)
    | ((with_reducible refine gate_dst (N := 3) rfl ?_); refine box_event ?hg (N := 3) ?hd (cs := (U (List.replicate 36 0)).toArray) (t := 27) ?hr ?_; (case hd => rfl); (case hg => rfl); (case hr => first | (go_simp; done) | (go_simp; rfl)); intro go hg Wo hbox hb; have GWo := Lib.hid ((by rw [hg]; exact below_size (w := w) (by repeat (first | (with_reducible first | exact HB.out | apply below_alloc | apply pw_below_drewN | apply below_drew) | exact HB.out))) : w.heap.size ≤ go); have NEao : ga ≠ go := (by rw [hg]; exact Nat.ne_of_lt (Blk.lt (by (with_reducible repeat (first | apply Blk.alloc | apply Blk.drewN | apply Blk.drew)); exact BKa.out))); have NEoa : go ≠ ga := NEao.symm; have NEro : gr ≠ go := (by rw [hg]; exact Nat.ne_of_lt (Blk.lt (by (with_reducible repeat (first | apply Blk.alloc | apply Blk.drewN | apply Blk.drew)); exact BKr.out))); have NEor : go ≠ gr := NEro.symm; have BKa_n := Lib.hid (Blk.below (by (with_reducible repeat (first | apply Blk.alloc | apply Blk.drewN | apply Blk.drew)); exact BKa.out) hb); have BKr_n := Lib.hid (Blk.below (by (with_reducible repeat (first | apply Blk.alloc | apply Blk.drewN | apply Blk.drew)); exact BKr.out) hb); have HB_n := Lib.hid (below_step (w := w) (by repeat (first | (with_reducible first | exact HB.out | apply below_alloc | apply pw_below_drewN | apply below_drew) | exact HB.out)) hb); clear BKa; have BKa := BKa_n; clear BKa_n; clear BKr; have BKr := BKr_n; clear BKr_n; clear HB; have HB := HB_n; clear HB_n; have BKo := Lib.hid (show Blk Wo go 27 (U (List.replicate 36 0)) from hbox); clear hbox hg hb))
  go_loopg [4] 6 (fun gg v4 wr => ∃ n : Nat, Hid (n ≤ 6) ∧ Hid (6 - n ≤ gg) ∧ v4 = .int .i64 (n : Int) ∧ Hid (Blk wr ga 38 (U l)) ∧ Hid (Blk wr gr 27 (U (List.replicate 36 0))) ∧ Hid (Blk wr go 27 (U (pre l (n * 6)))) ∧ Hid (Below w.heap.size w wr))
  case atStart => exact ⟨0, Lib.hid (Nat.zero_le _), Lib.hid (Nat.sub_le _ _), rfl, BKa, BKr, by rw [Nat.zero_mul, pre_zero, HL.out]; exact BKo, HB⟩
  case round =>
    clear BKa BKr BKo HB
    obtain ⟨n, hn, hg, rfl, BKa, BKr, BKo, HB⟩ := hrel
    by_cases hlt : n < 6
    · have H6 : Hid (n * 6 + 6 ≤ l.length) := Lib.hid (by rw [HL.out]; omega)
      have hb0 : decide ((n : Int) < 6) = true := decide_eq_true (by omega)
      have hb1 : (n : Int) < 6 := by omega
      have hi0 : (0 : Int) ≤ (n : Int) := by omega
      have hnb : n < 9223372036854775807 := by omega
      have HN := Lib.hid hlt
      clear hlt hn
      go_wp2_with (first
    | ((with_reducible refine wpList_ldpart rfl 37 (.tmp 11) rfl ga (n * 6) 6 ?hx (U ((l.drop (n * 6)).take 6)) 38 (U l) _ ?hB Try.underlying37 rfl inf37 ?hf ?hs ?_); (case hx => rfl); (case hB => exact (by (with_reducible repeat (first | apply Blk.alloc | apply Blk.drewN | apply Blk.drew)); exact BKa.out)); (case hf => rw [U_length]; exact H6.out); (case hs => exact U_part _ _ _))
    | (go_at_call 77; (with_reducible refine (toA6_calls ((l.drop (n * 6)).take 6) (part_length _ _ _ H6.out) _).mono ?_); rintro e W_ ⟨rfl, hb⟩; have BKa_n := Lib.hid (Blk.below (by (with_reducible repeat (first | apply Blk.alloc | apply Blk.drewN | apply Blk.drew)); exact BKa.out) hb); have BKr_n := Lib.hid (Blk.below (by (with_reducible repeat (first | apply Blk.alloc | apply Blk.drewN | apply Blk.drew)); exact BKr.out) hb); have BKo_n := Lib.hid (Blk.below (by (with_reducible repeat (first | apply Blk.alloc | apply Blk.drewN | apply Blk.drew)); exact BKo.out) hb); have HB_n := Lib.hid (below_step (w := w) (by repeat (first | (with_reducible first | exact HB.out | apply below_alloc | apply pw_below_drewN | apply below_drew) | exact HB.out)) hb); clear BKa; have BKa := BKa_n; clear BKa_n; clear BKr; have BKr := BKr_n; clear BKr_n; clear BKo; have BKo := BKo_n; clear BKo_n; clear HB; have HB := HB_n; clear HB_n; clear hb)
    | ((with_reducible refine wpList_stpart rfl 26 14 _ rfl rfl go (n * 6) ?hx (U ((l.drop (n * 6)).take 6)) ?hy 27 (U (pre l (n * 6))) (U (pre l (n * 6 + 6))) ?hB ?hi ?hf (U_one _) ?hL ?_); (case hx => rfl); (case hy => rfl); (case hB => exact (by (with_reducible repeat (first | apply Blk.alloc | apply Blk.drewN | apply Blk.drew)); exact BKo.out)); (case hi => rw [U_length, part_length _ _ _ H6.out]; exact inf26); (case hf => rw [U_length, part_length _ _ _ H6.out, U_length, pre_length _ _ (by have := H6.out; omega)]; exact H6.out); (case hL => exact U_pre_seg l _ _ H6.out); intro W_ hbk hfar hbel; have BKa_n := Lib.hid (Blk.other (by (with_reducible repeat (first | apply Blk.alloc | apply Blk.drewN | apply Blk.drew)); exact BKa.out) hfar NEao); have BKr_n := Lib.hid (Blk.other (by (with_reducible repeat (first | apply Blk.alloc | apply Blk.drewN | apply Blk.drew)); exact BKr.out) hfar NEro); have HB_n := Lib.hid (hbel _ _ (by repeat (first | (with_reducible first | exact HB.out | apply below_alloc | apply pw_below_drewN | apply below_drew) | exact HB.out)) GWo.out); have BKo_n := Lib.hid (hbk); clear BKa; have BKa := BKa_n; clear BKa_n; clear BKr; have BKr := BKr_n; clear BKr_n; clear HB; have HB := HB_n; clear HB_n; clear BKo; have BKo := BKo_n; clear BKo_n; clear hbk hfar hbel))
      go_roundg (6 - (n + 1))
      case measure => have := hg.out; have := HN.out; omega
      case rel => exact ⟨n + 1, Lib.hid HN.out, Lib.hid (Nat.le_refl _), by first | rfl | go_num, BKa, BKr, Lib.hid (by have := BKo.out; rw [show (n + 1) * 6 = n * 6 + 6 by omega]; exact this), HB⟩
    · have en : n = 6 := by have := hn.out; omega
      subst en
      have BKo2 : Hid (Blk wr go 27 (U l)) := Lib.hid (by have := BKo.out; rw [show 6 * 6 = l.length by rw [HL.out], pre_all] at this; exact this)
      clear BKo hn hg hlt
      have BKo := BKo2
      clear BKo2
      go_wp2_with (first
    | ((with_reducible refine wpList_ldall rfl 27 (.tmp 3) rfl go ?hx 27 (U l) _ ?hB Try.underlying27 rfl ?hi ?_); (case hx => rfl); (case hB => exact (by (with_reducible repeat (first | apply Blk.alloc | apply Blk.drewN | apply Blk.drew)); exact BKo.out)); (case hi => rw [U_length, HL.out]; exact inf27))
    | ((with_reducible refine wpList_stall rfl 27 2 _ rfl rfl gr ?hx (U l) ?hy 27 (U (List.replicate 36 0)) ?hB ?hi ?hf (U_one _) ?_); (case hx => rfl); (case hy => rfl); (case hB => exact (by (with_reducible repeat (first | apply Blk.alloc | apply Blk.drewN | apply Blk.drew)); exact BKr.out)); (case hi => rw [U_length, HL.out]; exact inf27); (case hf => rw [U_length, HL.out]; rfl); intro W_ hbk hfar hbel; have BKo_n := Lib.hid (Blk.other (by (with_reducible repeat (first | apply Blk.alloc | apply Blk.drewN | apply Blk.drew)); exact BKo.out) hfar NEor); have HB_n := Lib.hid (hbel _ _ (by repeat (first | (with_reducible first | exact HB.out | apply below_alloc | apply pw_below_drewN | apply below_drew) | exact HB.out)) GWr.out); have BKr_n := Lib.hid (hbk); clear BKo; have BKo := BKo_n; clear BKo_n; clear HB; have HB := HB_n; clear HB_n; clear BKr; have BKr := BKr_n; clear BKr_n; clear hbk hfar hbel))
      exact bodyPost_ret (results_cell_row Try.results44 _ _ gr 27 _ (0, 0) _ rfl BKr.out Try.underlying27 rfl (by simp only [List.size_toArray]; rw [U_length, HL.out]; exact inf27)) rfl ⟨rfl, HB.out⟩

set_option maxHeartbeats 4000000 in
set_option maxRecDepth 100000 in
theorem toM_calls (r c : Int) (l : List Int) (hl : l.length = 36) (w : World) : Calls Try.prog 17 #[.agg (M r c l).toArray] w fun e w' => e = .returned (.agg (M r c l).toArray) ∧ Below w.heap.size w w' := by
  have HL := Lib.hid hl
  clear hl
  have HB := Lib.hid (Below.refl w.heap.size w)
  go_enter Try.func17, Try.ntmps17
  go_wp2_with (first
    | ((with_reducible refine gate_dst (N := 1) rfl ?_); refine box_event ?hg (N := 1) ?hd (cs := (M r c l).toArray) (t := 40) ?hr ?_; (case hd => rfl); (case hg => rfl); (case hr => first | (go_simp; done) | (go_simp; rfl)); intro ga hg Wa hbox hb; have GWa := Lib.hid ((by rw [hg]; exact below_size (w := w) (by repeat (first | (with_reducible first | exact HB.out | apply below_alloc | apply pw_below_drewN | apply below_drew) | exact HB.out))) : w.heap.size ≤ ga); have HB_n := Lib.hid (below_step (w := w) (by repeat (first | (with_reducible first | exact HB.out | apply below_alloc | apply pw_below_drewN | apply below_drew) | exact HB.out)) hb); clear HB; have HB := HB_n; clear HB_n; have BKa := Lib.hid (show Blk Wa ga 40 (M r c l) from hbox); clear hbox hg hb)
    | ((with_reducible refine gate_dst (N := 2) rfl ?_); refine box_event ?hg (N := 2) ?hd (cs := (M 0 0 (List.replicate 36 0)).toArray) (t := 29) ?hr ?_; (case hd => rfl); (case hg => rfl); (case hr => first | (go_simp; done) | (go_simp; rfl)); intro gr hg Wr hbox hb; have GWr := Lib.hid ((by rw [hg]; exact below_size (w := w) (by repeat (first | (with_reducible first | exact HB.out | apply below_alloc | apply pw_below_drewN | apply below_drew) | exact HB.out))) : w.heap.size ≤ gr); have NEar : ga ≠ gr := (by rw [hg]; exact Nat.ne_of_lt (Blk.lt (by (with_reducible repeat (first | apply Blk.alloc | apply Blk.drewN | apply Blk.drew)); exact BKa.out))); have NEra : gr ≠ ga := NEar.symm; have BKa_n := Lib.hid (Blk.below (by (with_reducible repeat (first | apply Blk.alloc | apply Blk.drewN | apply Blk.drew)); exact BKa.out) hb); have HB_n := Lib.hid (below_step (w := w) (by repeat (first | (with_reducible first | exact HB.out | apply below_alloc | apply pw_below_drewN | apply below_drew) | exact HB.out)) hb); clear BKa; have BKa := BKa_n; clear BKa_n; clear HB; have HB := HB_n; clear HB_n; have BKr := Lib.hid (show Blk Wr gr 29 (M 0 0 (List.replicate 36 0)) from hbox); clear hbox hg hb)
    | ((with_reducible refine gate_dst (N := 3) rfl ?_); refine box_event ?hg (N := 3) ?hd (cs := (M 0 0 (List.replicate 36 0)).toArray) (t := 29) ?hr ?_; (case hd => rfl); (case hg => rfl); (case hr => first | (go_simp; done) | (go_simp; rfl)); intro go hg Wo hbox hb; have GWo := Lib.hid ((by rw [hg]; exact below_size (w := w) (by repeat (first | (with_reducible first | exact HB.out | apply below_alloc | apply pw_below_drewN | apply below_drew) | exact HB.out))) : w.heap.size ≤ go); have NEao : ga ≠ go := (by rw [hg]; exact Nat.ne_of_lt (Blk.lt (by (with_reducible repeat (first | apply Blk.alloc | apply Blk.drewN | apply Blk.drew)); exact BKa.out))); have NEoa : go ≠ ga := NEao.symm; have NEro : gr ≠ go := (by rw [hg]; exact Nat.ne_of_lt (Blk.lt (by (with_reducible repeat (first | apply Blk.alloc | apply Blk.drewN | apply Blk.drew)); exact BKr.out))); have NEor : go ≠ gr := NEro.symm; have BKa_n := Lib.hid (Blk.below (by (with_reducible repeat (first | apply Blk.alloc | apply Blk.drewN | apply Blk.drew)); exact BKa.out) hb); have BKr_n := Lib.hid (Blk.below (by (with_reducible repeat (first | apply Blk.alloc | apply Blk.drewN | apply Blk.drew)); exact BKr.out) hb); have HB_n := Lib.hid (below_step (w := w) (by repeat (first | (with_reducible first | exact HB.out | apply below_alloc | apply pw_below_drewN | apply below_drew) | exact HB.out)) hb); clear BKa; have BKa := BKa_n; clear BKa_n; clear BKr; have BKr := BKr_n; clear BKr_n; clear HB; have HB := HB_n; clear HB_n; have BKo := Lib.hid (show Blk Wo go 29 (M 0 0 (List.replicate 36 0)) from hbox); clear hbox hg hb; have hx0 : Wo.cell? ⟨ga, 0, none⟩ = some (.int .i8 r) := BKa.out.cell 0; have hx1 : Wo.cell? ⟨ga, 1, none⟩ = some (.int .i8 c) := BKa.out.cell 1; have hy0 : Wo.cell? ⟨go, 0, none⟩ = some (.int .i8 0) := BKo.out.cell 0; have hy1 : Wo.cell? ⟨go, 1, none⟩ = some (.int .i8 0) := BKo.out.cell 1; have hf0 := BKo.out.frozen 0; have hf1 := BKo.out.frozen 1)
    | ((with_reducible refine gate_ (.load 38 (.tmp 10)) rfl ?_); have BKo_n := Lib.hid (show Blk ((Wo.setCell ⟨go, 0, none⟩ (.int .i8 r)).setCell ⟨go, 1, none⟩ (.int .i8 c)) go 29 (M r c (List.replicate 36 0)) from (BKo.out.set 0 _).set 1 _); have BKa_n := Lib.hid (show Blk ((Wo.setCell ⟨go, 0, none⟩ (.int .i8 r)).setCell ⟨go, 1, none⟩ (.int .i8 c)) ga 40 (M r c l) from (BKa.out.far NEao _ _).far NEao _ _); have BKr_n := Lib.hid (show Blk ((Wo.setCell ⟨go, 0, none⟩ (.int .i8 r)).setCell ⟨go, 1, none⟩ (.int .i8 c)) gr 29 (M 0 0 (List.replicate 36 0)) from (BKr.out.far NEro _ _).far NEro _ _); have HB_n := Lib.hid (show Below w.heap.size w ((Wo.setCell ⟨go, 0, none⟩ (.int .i8 r)).setCell ⟨go, 1, none⟩ (.int .i8 c)) from below_set (below_set HB.out GWo.out) GWo.out); generalize ((Wo.setCell ⟨go, 0, none⟩ (.int .i8 r)).setCell ⟨go, 1, none⟩ (.int .i8 c)) = W1 at BKo_n BKa_n BKr_n HB_n ⊢; clear BKo BKa BKr HB; have BKo := BKo_n; have BKa := BKa_n; have BKr := BKr_n; have HB := HB_n; clear BKo_n BKa_n BKr_n HB_n hx0 hx1 hy0 hy1 hf0 hf1; (with_reducible refine wpList_ldpart rfl 38 (.tmp 10) rfl ga (2) 36 ?hx (U l) 40 (M r c l) _ ?hB Try.underlying38 rfl inf38 ?hf ?hs ?_); (case hx => rfl); (case hB => exact (by (with_reducible repeat (first | apply Blk.alloc | apply Blk.drewN | apply Blk.drew)); exact BKa.out)); (case hf => rw [M_length, HL.out]; exact Nat.le_refl _); (case hs => exact M_cells r c l 36 HL.out))
    | (go_at_call 44; (with_reducible refine (toA66_calls l HL.out _).mono ?_); rintro e W_ ⟨rfl, hb⟩; have BKa_n := Lib.hid (Blk.below (by (with_reducible repeat (first | apply Blk.alloc | apply Blk.drewN | apply Blk.drew)); exact BKa.out) hb); have BKr_n := Lib.hid (Blk.below (by (with_reducible repeat (first | apply Blk.alloc | apply Blk.drewN | apply Blk.drew)); exact BKr.out) hb); have BKo_n := Lib.hid (Blk.below (by (with_reducible repeat (first | apply Blk.alloc | apply Blk.drewN | apply Blk.drew)); exact BKo.out) hb); have HB_n := Lib.hid (below_step (w := w) (by repeat (first | (with_reducible first | exact HB.out | apply below_alloc | apply pw_below_drewN | apply below_drew) | exact HB.out)) hb); clear BKa; have BKa := BKa_n; clear BKa_n; clear BKr; have BKr := BKr_n; clear BKr_n; clear BKo; have BKo := BKo_n; clear BKo_n; clear HB; have HB := HB_n; clear HB_n; clear hb)
    | ((with_reducible refine wpList_stpart rfl 27 13 _ rfl rfl go (2) ?hx (U l) ?hy 29 (M r c (List.replicate 36 0)) (M r c l) ?hB ?hi ?hf (U_one _) ?hL ?_); (case hx => rfl); (case hy => rfl); (case hB => exact (by (with_reducible repeat (first | apply Blk.alloc | apply Blk.drewN | apply Blk.drew)); exact BKo.out)); (case hi => rw [U_length, HL.out]; exact inf27); (case hf => rw [U_length, HL.out, M_length]; exact Nat.le_refl _); (case hL => exact M_put r c _ l (by rw [HL.out]; rfl)); intro W_ hbk hfar hbel; have BKa_n := Lib.hid (Blk.other (by (with_reducible repeat (first | apply Blk.alloc | apply Blk.drewN | apply Blk.drew)); exact BKa.out) hfar NEao); have BKr_n := Lib.hid (Blk.other (by (with_reducible repeat (first | apply Blk.alloc | apply Blk.drewN | apply Blk.drew)); exact BKr.out) hfar NEro); have HB_n := Lib.hid (hbel _ _ (by repeat (first | (with_reducible first | exact HB.out | apply below_alloc | apply pw_below_drewN | apply below_drew) | exact HB.out)) GWo.out); have BKo_n := Lib.hid (hbk); clear BKa; have BKa := BKa_n; clear BKa_n; clear BKr; have BKr := BKr_n; clear BKr_n; clear HB; have HB := HB_n; clear HB_n; clear BKo; have BKo := BKo_n; clear BKo_n; clear hbk hfar hbel)
    | ((with_reducible refine wpList_ldall rfl 29 (.tmp 3) rfl go ?hx 29 (M r c l) _ ?hB Try.underlying29 rfl ?hi ?_); (case hx => rfl); (case hB => exact (by (with_reducible repeat (first | apply Blk.alloc | apply Blk.drewN | apply Blk.drew)); exact BKo.out)); (case hi => rw [M_length, HL.out]; exact inf29))
    | ((with_reducible refine wpList_stall rfl 29 2 _ rfl rfl gr ?hx (M r c l) ?hy 29 (M 0 0 (List.replicate 36 0)) ?hB ?hi ?hf (M_one _ _ _) ?_); (case hx => rfl); (case hy => rfl); (case hB => exact (by (with_reducible repeat (first | apply Blk.alloc | apply Blk.drewN | apply Blk.drew)); exact BKr.out)); (case hi => rw [M_length, HL.out]; exact inf29); (case hf => rw [M_length, M_length, HL.out]; rfl); intro W_ hbk hfar hbel; have BKo_n := Lib.hid (Blk.other (by (with_reducible repeat (first | apply Blk.alloc | apply Blk.drewN | apply Blk.drew)); exact BKo.out) hfar NEor); have HB_n := Lib.hid (hbel _ _ (by repeat (first | (with_reducible first | exact HB.out | apply below_alloc | apply pw_below_drewN | apply below_drew) | exact HB.out)) GWr.out); have BKr_n := Lib.hid (hbk); clear BKo; have BKo := BKo_n; clear BKo_n; clear HB; have HB := HB_n; clear HB_n; clear BKr; have BKr := BKr_n; clear BKr_n; clear hbk hfar hbel))
  exact bodyPost_ret (results_cell_row Try.results17 _ _ gr 29 _ (0, 0) _ rfl BKr.out Try.underlying29 rfl (by simp only [List.size_toArray]; rw [M_length, HL.out]; exact inf29)) rfl ⟨rfl, HB.out⟩
end Go.Proofs.Ythjbeglmdifhdaa.Given
