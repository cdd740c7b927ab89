/- Walks of functions that the print does not take. -/
import Derived.Test.YthjbeglmdifhdaaProg
import Derived.Below
import Derived.Deep.Draws
import Derived.Deep.AppendLies
import Derived.Maps.AppendAt
import Derived.OwnWalk
import Derived.Laws.BytesArg
import Derived.Laws.MakeOwn
import Derived.Laws.OwnMore
import Derived.Deep.OwnRows
import Derived.Tactics
import Derived.Lib.ConvBytes
import Derived.Laws.Slices
import Derived.WalkKit
import Derived.KernelRfl
import Derived.RowKit3
import Derived.Deep.LoopGhost
import Derived.Deep.QuietTactic
import Derived.BigQuiet
import Derived.WideLaws
import Derived.Deep.DeepCutAuto
import Derived.Deep.CutBlock
import Derived.Deep.RegionHeld3
import Derived.Laws.Rows
import Derived.Lib.AppendStr
import Derived.ArgAppend
import Derived.Laws.IdiomCopy
import Derived.OrdersHeld
import Derived.Laws.BitsLemmas
import Derived.RowKit
import Derived.Lib.Hide
import Derived.WalkSpells
import Derived.Test.YthjbeglmdifhdaaWWords
import Derived.Test.YthjbeglmdifhdaaWLast
import Derived.Test.YthjbeglmdifhdaaWTab
import Derived.Test.YthjbeglmdifhdaaWFour
import Derived.Test.YthjbeglmdifhdaaWQPut
import Derived.Test.YthjbeglmdifhdaaWApart
import Derived.Test.YthjbeglmdifhdaaWArr
import Derived.Test.YthjbeglmdifhdaaWZeros
import Derived.Test.YthjbeglmdifhdaaWFoot
import Derived.Test.YthjbeglmdifhdaaWKept
import Derived.Test.YthjbeglmdifhdaaWShare
import Derived.Test.YthjbeglmdifhdaaWN
import Derived.Test.YthjbeglmdifhdaaWFootNe
import Derived.Test.YthjbeglmdifhdaaWAt
import Derived.Test.YthjbeglmdifhdaaWEqStruct
import Derived.Test.YthjbeglmdifhdaaWRepsOne
import Derived.Test.YthjbeglmdifhdaaWInv
import Derived.Test.YthjbeglmdifhdaaWInvWords
import Derived.Test.YthjbeglmdifhdaaWGuard
import Derived.Test.YthjbeglmdifhdaaWNEv
import Derived.Test.YthjbeglmdifhdaaWMore
import Derived.Test.YthjbeglmdifhdaaN1
import Derived.Test.YthjbeglmdifhdaaMF
namespace Go.Proofs.Ythjbeglmdifhdaa.Given
open Go.RowKit Go.Proofs.YthjbeglmdifhdaaW.PrintWords Go.Proofs.YthjbeglmdifhdaaW.PrintLast Go.Proofs.YthjbeglmdifhdaaW.PrintMore Go.Proofs.Ythjbeglmdifhdaa.NimF Go.Proofs.Ythjbeglmdifhdaa.NimGo
set_option linter.unusedVariables false
set_option linter.unusedSimpArgs false
/-- a row times a vector, the first so many -/
def dot (l v : List Int) (i : Nat) : Nat → Int
  | 0 => 0
  | k + 1 => Go.bits .xor .u16 (dot l v i k) (tm (l.getD (i * 6 + k) 0) (v.getD k 0))
/-- the first so many rows times a vector -/
def mv (l v : List Int) (C n : Nat) : List Int := (List.range 6).map fun i => if i < n then dot l v i C else 0
theorem mv_length (l v : List Int) (C n : Nat) : (mv l v C n).length = 6 := by simp [mv]
theorem mv_zero (l v : List Int) (C : Nat) : mv l v C 0 = List.replicate 6 0 := by
  refine ext_len (by rw [mv_length, List.length_replicate]) (fun j hj => ?_)
  rw [mv_length] at hj
  rw [List.getElem?_replicate, if_pos hj]
  unfold mv
  rw [List.getElem?_map, List.getElem?_range hj]
  show some (if j < 0 then _ else _) = _
  rw [if_neg (by omega)]
theorem mv_get (l v : List Int) (C n : Nat) {j : Nat} (hj : j < 6) : (mv l v C n)[j]? = some (if j < n then dot l v j C else 0) := by
  unfold mv
  rw [List.getElem?_map, List.getElem?_range hj]
  rfl
theorem mv_set (l v : List Int) (C i : Nat) (hi : i < 6) : (mv l v C i).set i (dot l v i C) = mv l v C (i + 1) := by
  refine ext_len (by rw [List.length_set, mv_length, mv_length]) (fun j hj => ?_)
  rw [List.length_set, mv_length] at hj
  rw [mv_get l v C (i + 1) hj, List.getElem?_set]
  by_cases e : i = j
  · subst e
    rw [if_pos rfl, if_pos (by rw [mv_length]; exact hj), if_pos (by omega)]
  · rw [if_neg e, mv_get l v C i hj]
    by_cases q : j < i
    · rw [if_pos q, if_pos (by omega)]
    · rw [if_neg q, if_neg (by omega)]
/-- .. and the row under way -/
def mw (l v : List Int) (C i k : Nat) : List Int := (mv l v C i).set i (dot l v i k)
theorem mw_length (l v : List Int) (C i k : Nat) : (mw l v C i k).length = 6 := by unfold mw; rw [List.length_set, mv_length]
theorem mw_zero (l v : List Int) (C i : Nat) (hi : i < 6) : mw l v C i 0 = mv l v C i := by
  refine ext_len (by rw [mw_length, mv_length]) (fun j hj => ?_)
  rw [mw_length] at hj
  unfold mw
  rw [List.getElem?_set]
  by_cases e : i = j
  · subst e
    rw [if_pos rfl, if_pos (by rw [mv_length]; exact hj), mv_get l v C i hj, if_neg (by omega)]; rfl
  · rw [if_neg e]
theorem mw_at (l v : List Int) (C i k : Nat) (hi : i < 6) : (mw l v C i k).getD i 0 = dot l v i k := by
  unfold mw
  exact getD_of (by rw [List.getElem?_set, if_pos rfl, if_pos (by rw [mv_length]; exact hi)])
theorem mw_set (l v : List Int) (C i k : Nat) : (mw l v C i k).set i (dot l v i (k + 1)) = mw l v C i (k + 1) := by
  unfold mw
  rw [List.set_set]

set_option maxHeartbeats 8000000 in
set_option maxRecDepth 100000 in
theorem l02Apply_calls (R C : Nat) (l v : List Int) (hl : l.length = 36) (hv : v.length = 6) (hR : R ≤ 6) (hC : C ≤ 6) (hw : W16 l) (hx : W16 v) (ga gv : Nat) (w : World) (hA : Blk w ga 29 (M R C l)) (hB : Blk w gv 46 (U v)) :
    Calls Try.prog 48 #[.pointer (some ⟨ga, 0, none⟩), .pointer (some ⟨gv, 0, none⟩)] w fun e w' => e = .returned (.agg (U (mv l v C R)).toArray) ∧ Below w.heap.size w w' := by
  have HL := Lib.hid hl
  have HV := Lib.hid hv
  have HRC : Hid (R ≤ 6 ∧ C ≤ 6) := Lib.hid ⟨hR, hC⟩
  have HW := Lib.hid hw
  have HX := Lib.hid hx
  have HB := Lib.hid (Below.refl w.heap.size w)
  have q1 : (0 : Int) ≤ (R : Int) := by omega
  have q2 : (R : Int) ≤ 6 := by omega
  have q3 : (0 : Int) ≤ (C : Int) := by omega
  have q4 : (C : Int) ≤ 6 := by omega
  have BKa := Lib.hid hA
  have BKv := Lib.hid hB
  clear hl hv hR hC hw hx hA hB
  go_enter Try.func48, Try.ntmps48
  go_wp2_with (first
    | ((with_reducible refine gate_dst (N := 4) rfl ?_); refine box_event ?hg (N := 4) ?hd (cs := (U (List.replicate 6 0)).toArray) (t := 46) ?hr ?_; (case hd => rfl); (case hg => rfl); (case hr => first | (go_simp; done) | (go_simp; rfl)); intro gr hg Wr hbox hb; have GWr := Lib.hid ((by rw [hg]; exact below_size (w := w) (by repeat (first | (with_reducible first | exact HB.out | apply below_alloc | apply pw_below_drewN | apply below_drew) | exact HB.out))) : w.heap.size ≤ gr); have NEar : ga ≠ gr := (by rw [hg]; exact Nat.ne_of_lt (Blk.lt (by (with_reducible repeat (first | apply Blk.alloc | apply Blk.drewN | apply Blk.drew)); exact BKa.out))); have NEra : gr ≠ ga := NEar.symm; have NEvr : gv ≠ gr := (by rw [hg]; exact Nat.ne_of_lt (Blk.lt (by (with_reducible repeat (first | apply Blk.alloc | apply Blk.drewN | apply Blk.drew)); exact BKv.out))); have NErv : gr ≠ gv := NEvr.symm; have BKa_n := Lib.hid (Blk.below (by (with_reducible repeat (first | apply Blk.alloc | apply Blk.drewN | apply Blk.drew)); exact BKa.out) hb); have BKv_n := Lib.hid (Blk.below (by (with_reducible repeat (first | apply Blk.alloc | apply Blk.drewN | apply Blk.drew)); exact BKv.out) hb); have HB_n := Lib.hid (below_step (w := w) (by repeat (first | (with_reducible first | exact HB.out | apply below_alloc | apply pw_below_drewN | apply below_drew) | exact HB.out)) hb); clear BKa; have BKa := BKa_n; clear BKa_n; clear BKv; have BKv := BKv_n; clear BKv_n; clear HB; have HB := HB_n; clear HB_n; have BKr := Lib.hid (show Blk Wr gr 46 (U (List.replicate 6 0)) from hbox); clear hbox hg hb)
    | ((with_reducible refine gate_dst (N := 5) rfl ?_); refine box_event ?hg (N := 5) ?hd (cs := (U (List.replicate 6 0)).toArray) (t := 46) ?hr ?_; (case hd => rfl); (case hg => rfl); (case hr => first | (go_simp; done) | (go_simp; rfl)); intro go hg Wo hbox hb; have GWo := Lib.hid ((by rw [hg]; exact below_size (w := w) (by repeat (first | (with_reducible first | exact HB.out | apply below_alloc | apply pw_below_drewN | apply below_drew) | exact HB.out))) : w.heap.size ≤ go); have NEao : ga ≠ go := (by rw [hg]; exact Nat.ne_of_lt (Blk.lt (by (with_reducible repeat (first | apply Blk.alloc | apply Blk.drewN | apply Blk.drew)); exact BKa.out))); have NEoa : go ≠ ga := NEao.symm; have NEvo : gv ≠ go := (by rw [hg]; exact Nat.ne_of_lt (Blk.lt (by (with_reducible repeat (first | apply Blk.alloc | apply Blk.drewN | apply Blk.drew)); exact BKv.out))); have NEov : go ≠ gv := NEvo.symm; have NEro : gr ≠ go := (by rw [hg]; exact Nat.ne_of_lt (Blk.lt (by (with_reducible repeat (first | apply Blk.alloc | apply Blk.drewN | apply Blk.drew)); exact BKr.out))); have NEor : go ≠ gr := NEro.symm; have BKa_n := Lib.hid (Blk.below (by (with_reducible repeat (first | apply Blk.alloc | apply Blk.drewN | apply Blk.drew)); exact BKa.out) hb); have BKv_n := Lib.hid (Blk.below (by (with_reducible repeat (first | apply Blk.alloc | apply Blk.drewN | apply Blk.drew)); exact BKv.out) hb); have BKr_n := Lib.hid (Blk.below (by (with_reducible repeat (first | apply Blk.alloc | apply Blk.drewN | apply Blk.drew)); exact BKr.out) hb); have HB_n := Lib.hid (below_step (w := w) (by repeat (first | (with_reducible first | exact HB.out | apply below_alloc | apply pw_below_drewN | apply below_drew) | exact HB.out)) hb); clear BKa; have BKa := BKa_n; clear BKa_n; clear BKv; have BKv := BKv_n; clear BKv_n; clear BKr; have BKr := BKr_n; clear BKr_n; clear HB; have HB := HB_n; clear HB_n; have BKo := Lib.hid (show Blk Wo go 46 (U (List.replicate 6 0)) from hbox); clear hbox hg hb)
    | ((with_reducible refine wpList_stall rfl 46 5 _ rfl rfl go ?hx (U (List.replicate 6 0)) ?hy 46 (U (List.replicate 6 0)) ?hB ?hi ?hf (U_one _) ?_); (case hx => rfl); (case hy => rfl); (case hB => exact (by (with_reducible repeat (first | apply Blk.alloc | apply Blk.drewN | apply Blk.drew)); exact BKo.out)); (case hi => rw [U_length, List.length_replicate]; exact inf46); (case hf => rfl); intro W_ hbk hfar hbel; have BKa_n := Lib.hid (Blk.other (by (with_reducible repeat (first | apply Blk.alloc | apply Blk.drewN | apply Blk.drew)); exact BKa.out) hfar NEao); have BKv_n := Lib.hid (Blk.other (by (with_reducible repeat (first | apply Blk.alloc | apply Blk.drewN | apply Blk.drew)); exact BKv.out) hfar NEvo); have BKr_n := Lib.hid (Blk.other (by (with_reducible repeat (first | apply Blk.alloc | apply Blk.drewN | apply Blk.drew)); exact BKr.out) hfar NEro); have HB_n := Lib.hid (hbel _ _ (by repeat (first | (with_reducible first | exact HB.out | apply below_alloc | apply pw_below_drewN | apply below_drew) | exact HB.out)) GWo.out); have BKo_n := Lib.hid (hbk); clear BKa; have BKa := BKa_n; clear BKa_n; clear BKv; have BKv := BKv_n; clear BKv_n; clear BKr; have BKr := BKr_n; clear BKr_n; clear HB; have HB := HB_n; clear HB_n; clear BKo; have BKo := BKo_n; clear BKo_n; clear hbk hfar hbel))
  go_loopg [6] R (fun gg v6 wr => ∃ i : Nat, Hid (i ≤ R) ∧ Hid (R - i ≤ gg) ∧ v6 = .int .i64 (i : Int) ∧ Hid (Blk wr ga 29 (M R C l)) ∧ Hid (Blk wr gv 46 (U v)) ∧ Hid (Blk wr gr 46 (U (List.replicate 6 0))) ∧ Hid (Blk wr go 46 (U (mv l v C i))) ∧ Hid (Below w.heap.size w wr))
  case atStart => exact ⟨0, Lib.hid (Nat.zero_le _), Lib.hid (Nat.sub_le _ _), rfl, BKa, BKv, BKr, Lib.hid (by rw [mv_zero]; exact BKo.out), HB⟩
  case round =>
      clear BKa HB BKr BKo BKv
      obtain ⟨i, hn, hg, rfl, BKa, BKv, BKr, BKo, HB⟩ := hrel
      by_cases hlt : i < R
      · have hb0 : decide ((i : Int) < (R : Int)) = true := decide_eq_true (by omega)
        have hb1 : (i : Int) < (R : Int) := by omega
        have hb2 : (i : Int) < 6 := by have := HRC.out; omega
        have hi0 : (0 : Int) ≤ (i : Int) := by omega
        have hib : i < 9223372036854775807 := by have := HRC.out; omega
        have hr0 : wr.cell? ⟨ga, 0, none⟩ = some (.int .i8 (R : Int)) := BKa.out.cell 0
        have HNi := Lib.hid hlt
        have HGi := Lib.hid hg.out
        clear hlt hn hg
        go_wp2
        clear hr0
        go_loopg [7, 8] C (fun gg v7 v8 wq => ∃ k : Nat, Hid (k ≤ C) ∧ Hid (C - k ≤ gg) ∧ v7 = .int .u16 (dot l v i k) ∧ v8 = .int .i64 (k : Int) ∧ Hid (Blk wq ga 29 (M R C l)) ∧ Hid (Blk wq gv 46 (U v)) ∧ Hid (Blk wq gr 46 (U (List.replicate 6 0))) ∧ Hid (Blk wq go 46 (U (mv l v C i))) ∧ Hid (Below w.heap.size w wq))
        case atStart => exact ⟨0, Lib.hid (Nat.zero_le _), Lib.hid (Nat.sub_le _ _), rfl, rfl, BKa, BKv, BKr, BKo, HB⟩
        case round =>
          clear BKa HB BKr BKo BKv
          obtain ⟨k, hn, hg, rfl, rfl, BKa, BKv, BKr, BKo, HB⟩ := hrel
          by_cases hlt : k < C
          · have hN : i * 6 + k < l.length := by rw [HL.out]; have := HNi.out; have := HRC.out; omega
            have hNv : k < v.length := by rw [HV.out]; have := HRC.out; omega
            have hx := (BKa.out.cell (i * 6 + k + 2)).trans (M_get hN)
            rw [show i * 6 + k + 2 = 2 + i * 6 + k by omega] at hx
            have hy := (BKv.out.cell k).trans (U_get hNv)
            have hr1 : wr.cell? ⟨ga, 1, none⟩ = some (.int .i8 (C : Int)) := BKa.out.cell 1
            have TS : Hid (dot l v i (k + 1) = Go.bits .xor .u16 (dot l v i k) (tm (l.getD (i * 6 + k) 0) (v.getD k 0))) := Lib.hid rfl
            have H1 := Lib.hid (HW.out.at_ hN)
            have H2 := Lib.hid (HX.out.at_ hNv)
            generalize l.getD (i * 6 + k) 0 = x at hx TS H1
            generalize v.getD k 0 = y at hy TS H2
            generalize dot l v i k = d at TS ⊢
            have kb0 : decide ((k : Int) < (C : Int)) = true := decide_eq_true (by omega)
            have kb1 : (k : Int) < (C : Int) := by omega
            have kb2 : (k : Int) < 6 := by have := HRC.out; omega
            have ki0 : (0 : Int) ≤ (k : Int) := by omega
            have kib : k < 9223372036854775807 := by omega
            have HN := Lib.hid hlt
            clear hlt hn hN hNv
            go_wp2
            go_quiet ((go_at_call 39; exact Calls.quiet_of ((stm_calls H1.out H2.out _).mono (fun _ _ h => ⟨h.1, by obtain ⟨q⟩ := h.2; exact q⟩))))
            go_wp2
            go_roundg (C - (k + 1))
            case measure => have := hg.out; have := HN.out; omega
            case rel => exact ⟨k + 1, Lib.hid HN.out, Lib.hid (Nat.le_refl _), by rw [TS.out], by first | rfl | go_num, Lib.hid (BKa.out.drewN _), Lib.hid (BKv.out.drewN _), Lib.hid (BKr.out.drewN _), Lib.hid (BKo.out.drewN _), Lib.hid (pw_below_drewN HB.out _)⟩
          · have en : k = C := by have := hn.out; omega
            subst en
            have kb0 : decide ((k : Int) < (k : Int)) = false := decide_eq_false (by omega)
            have hr1 : wr.cell? ⟨ga, 1, none⟩ = some (.int .i8 (k : Int)) := BKa.out.cell 1
            have hi6 : i < 6 := by have := HRC.out; have := HNi.out; omega
            have hy := (BKo.out.cell i).trans (U_get (by rw [mv_length]; exact hi6))
            have hf := BKo.out.frozen i
            generalize (mv l v k i).getD i 0 = y at hy
            have TS := Lib.hid (mv_set l v k i hi6)
            generalize dot l v i k = d at TS ⊢
            clear hn hg hlt hi6
            go_wp2
            go_roundg (R - (i + 1))
            case measure => have := HGi.out; have := HNi.out; omega
            case rel => exact ⟨i + 1, Lib.hid HNi.out, Lib.hid (Nat.le_refl _), by first | rfl | go_num, Lib.hid (BKa.out.far NEao _ _), Lib.hid (BKv.out.far NEvo _ _), Lib.hid (BKr.out.far NEro _ _), Lib.hid (by rw [← TS.out, ← U_set]; exact BKo.out.set _ _), Lib.hid (below_set HB.out GWo.out)⟩
      · have en : i = R := by have := hn.out; omega
        subst en
        have hb0 : decide ((i : Int) < (i : Int)) = false := decide_eq_false (by omega)
        have hr0 : wr.cell? ⟨ga, 0, none⟩ = some (.int .i8 (i : Int)) := BKa.out.cell 0
        clear hn hg hlt
        go_wp2_with (first
    | ((with_reducible refine wpList_ldall rfl 46 (.tmp 5) rfl go ?hx 46 (U (mv l v C i)) _ ?hB Try.underlying46 rfl ?hi ?_); (case hx => rfl); (case hB => exact (by (with_reducible repeat (first | apply Blk.alloc | apply Blk.drewN | apply Blk.drew)); exact BKo.out)); (case hi => rw [U_length, mv_length]; exact inf46))
    | ((with_reducible refine wpList_stall rfl 46 4 _ rfl rfl gr ?hx (U (mv l v C i)) ?hy 46 (U (List.replicate 6 0)) ?hB ?hi ?hf (U_one _) ?_); (case hx => rfl); (case hy => rfl); (case hB => exact (by (with_reducible repeat (first | apply Blk.alloc | apply Blk.drewN | apply Blk.drew)); exact BKr.out)); (case hi => rw [U_length, mv_length]; exact inf46); (case hf => rw [U_length, mv_length]; rfl); intro W_ hbk hfar hbel; have BKa_n := Lib.hid (Blk.other (by (with_reducible repeat (first | apply Blk.alloc | apply Blk.drewN | apply Blk.drew)); exact BKa.out) hfar NEar); have BKv_n := Lib.hid (Blk.other (by (with_reducible repeat (first | apply Blk.alloc | apply Blk.drewN | apply Blk.drew)); exact BKv.out) hfar NEvr); have BKo_n := Lib.hid (Blk.other (by (with_reducible repeat (first | apply Blk.alloc | apply Blk.drewN | apply Blk.drew)); exact BKo.out) hfar NEor); have HB_n := Lib.hid (hbel _ _ (by repeat (first | (with_reducible first | exact HB.out | apply below_alloc | apply pw_below_drewN | apply below_drew) | exact HB.out)) GWr.out); have BKr_n := Lib.hid (hbk); clear BKa; have BKa := BKa_n; clear BKa_n; clear BKv; have BKv := BKv_n; clear BKv_n; clear BKo; have BKo := BKo_n; clear BKo_n; clear HB; have HB := HB_n; clear HB_n; clear BKr; have BKr := BKr_n; clear BKr_n; clear hbk hfar hbel))
        exact bodyPost_ret (results_cell_row Try.results48 _ _ gr 46 _ (0, 0) _ rfl BKr.out Try.underlying46 rfl (by simp only [List.size_toArray]; rw [U_length, mv_length]; exact inf46)) rfl ⟨rfl, HB.out⟩

set_option maxHeartbeats 8000000 in
set_option maxRecDepth 100000 in
theorem implApply_calls (R C : Nat) (l v : List Int) (hl : l.length = 36) (hv : v.length = 6) (hR : R ≤ 6) (hC : C ≤ 6) (hw : W16 l) (hx : W16 v) (w : World) :
    Calls Try.prog 50 #[.agg (M R C l).toArray, .agg (U v).toArray] w fun e w' => e = .returned (.agg (U (mv l v C R)).toArray) ∧ Below w.heap.size w w' := by
  have HL := Lib.hid hl
  have HV := Lib.hid hv
  have HRC : Hid (R ≤ 6 ∧ C ≤ 6) := Lib.hid ⟨hR, hC⟩
  have HW := Lib.hid hw
  have HX := Lib.hid hx
  have HB := Lib.hid (Below.refl w.heap.size w)
  have q1 : (0 : Int) ≤ (R : Int) := by omega
  have q2 : (R : Int) ≤ 6 := by omega
  have q3 : (0 : Int) ≤ (C : Int) := by omega
  have q4 : (C : Int) ≤ 6 := by omega
  clear hl hv hR hC hw hx
  go_enter Try.func50, Try.ntmps50
  go_wp2_with (first
    | ((with_reducible refine gate_dst (N := 2) rfl ?_); refine box_event ?hg (N := 2) ?hd (cs := (M R C l).toArray) (t := 29) ?hr ?_; (case hd => rfl); (case hg => rfl); (case hr => first | (go_simp; done) | (go_simp; rfl)); intro ga hg Wa hbox hb; have GWa := Lib.hid ((by rw [hg]; exact below_size (w := w) (by repeat (first | (with_reducible first | exact HB.out | apply below_alloc | apply pw_below_drewN | apply below_drew) | exact HB.out))) : w.heap.size ≤ ga); have HB_n := Lib.hid (below_step (w := w) (by repeat (first | (with_reducible first | exact HB.out | apply below_alloc | apply pw_below_drewN | apply below_drew) | exact HB.out)) hb); clear HB; have HB := HB_n; clear HB_n; have BKa := Lib.hid (show Blk Wa ga 29 (M R C l) from hbox); clear hbox hg hb)
    | ((with_reducible refine gate_dst (N := 3) rfl ?_); refine box_event ?hg (N := 3) ?hd (cs := (U v).toArray) (t := 46) ?hr ?_; (case hd => rfl); (case hg => rfl); (case hr => first | (go_simp; done) | (go_simp; rfl)); intro gv hg Wv hbox hb; have GWv := Lib.hid ((by rw [hg]; exact below_size (w := w) (by repeat (first | (with_reducible first | exact HB.out | apply below_alloc | apply pw_below_drewN | apply below_drew) | exact HB.out))) : w.heap.size ≤ gv); have NEav : ga ≠ gv := (by rw [hg]; exact Nat.ne_of_lt (Blk.lt (by (with_reducible repeat (first | apply Blk.alloc | apply Blk.drewN | apply Blk.drew)); exact BKa.out))); have NEva : gv ≠ ga := NEav.symm; have BKa_n := Lib.hid (Blk.below (by (with_reducible repeat (first | apply Blk.alloc | apply Blk.drewN | apply Blk.drew)); exact BKa.out) hb); have HB_n := Lib.hid (below_step (w := w) (by repeat (first | (with_reducible first | exact HB.out | apply below_alloc | apply pw_below_drewN | apply below_drew) | exact HB.out)) hb); clear BKa; have BKa := BKa_n; clear BKa_n; clear HB; have HB := HB_n; clear HB_n; have BKv := Lib.hid (show Blk Wv gv 46 (U v) from hbox); clear hbox hg hb)
    | ((with_reducible refine gate_dst (N := 4) rfl ?_); refine box_event ?hg (N := 4) ?hd (cs := (U (List.replicate 6 0)).toArray) (t := 46) ?hr ?_; (case hd => rfl); (case hg => rfl); (case hr => first | (go_simp; done) | (go_simp; rfl)); intro gr hg Wr hbox hb; have GWr := Lib.hid ((by rw [hg]; exact below_size (w := w) (by repeat (first | (with_reducible first | exact HB.out | apply below_alloc | apply pw_below_drewN | apply below_drew) | exact HB.out))) : w.heap.size ≤ gr); have NEar : ga ≠ gr := (by rw [hg]; exact Nat.ne_of_lt (Blk.lt (by (with_reducible repeat (first | apply Blk.alloc | apply Blk.drewN | apply Blk.drew)); exact BKa.out))); have NEra : gr ≠ ga := NEar.symm; have NEvr : gv ≠ gr := (by rw [hg]; exact Nat.ne_of_lt (Blk.lt (by (with_reducible repeat (first | apply Blk.alloc | apply Blk.drewN | apply Blk.drew)); exact BKv.out))); have NErv : gr ≠ gv := NEvr.symm; have BKa_n := Lib.hid (Blk.below (by (with_reducible repeat (first | apply Blk.alloc | apply Blk.drewN | apply Blk.drew)); exact BKa.out) hb); have BKv_n := Lib.hid (Blk.below (by (with_reducible repeat (first | apply Blk.alloc | apply Blk.drewN | apply Blk.drew)); exact BKv.out) hb); have HB_n := Lib.hid (below_step (w := w) (by repeat (first | (with_reducible first | exact HB.out | apply below_alloc | apply pw_below_drewN | apply below_drew) | exact HB.out)) hb); clear BKa; have BKa := BKa_n; clear BKa_n; clear BKv; have BKv := BKv_n; clear BKv_n; clear HB; have HB := HB_n; clear HB_n; have BKr := Lib.hid (show Blk Wr gr 46 (U (List.replicate 6 0)) from hbox); clear hbox hg hb)
    | ((with_reducible refine gate_dst (N := 5) rfl ?_); refine box_event ?hg (N := 5) ?hd (cs := (U (List.replicate 6 0)).toArray) (t := 46) ?hr ?_; (case hd => rfl); (case hg => rfl); (case hr => first | (go_simp; done) | (go_simp; rfl)); intro go hg Wo hbox hb; have GWo := Lib.hid ((by rw [hg]; exact below_size (w := w) (by repeat (first | (with_reducible first | exact HB.out | apply below_alloc | apply pw_below_drewN | apply below_drew) | exact HB.out))) : w.heap.size ≤ go); have NEao : ga ≠ go := (by rw [hg]; exact Nat.ne_of_lt (Blk.lt (by (with_reducible repeat (first | apply Blk.alloc | apply Blk.drewN | apply Blk.drew)); exact BKa.out))); have NEoa : go ≠ ga := NEao.symm; have NEvo : gv ≠ go := (by rw [hg]; exact Nat.ne_of_lt (Blk.lt (by (with_reducible repeat (first | apply Blk.alloc | apply Blk.drewN | apply Blk.drew)); exact BKv.out))); have NEov : go ≠ gv := NEvo.symm; have NEro : gr ≠ go := (by rw [hg]; exact Nat.ne_of_lt (Blk.lt (by (with_reducible repeat (first | apply Blk.alloc | apply Blk.drewN | apply Blk.drew)); exact BKr.out))); have NEor : go ≠ gr := NEro.symm; have BKa_n := Lib.hid (Blk.below (by (with_reducible repeat (first | apply Blk.alloc | apply Blk.drewN | apply Blk.drew)); exact BKa.out) hb); have BKv_n := Lib.hid (Blk.below (by (with_reducible repeat (first | apply Blk.alloc | apply Blk.drewN | apply Blk.drew)); exact BKv.out) hb); have BKr_n := Lib.hid (Blk.below (by (with_reducible repeat (first | apply Blk.alloc | apply Blk.drewN | apply Blk.drew)); exact BKr.out) hb); have HB_n := Lib.hid (below_step (w := w) (by repeat (first | (with_reducible first | exact HB.out | apply below_alloc | apply pw_below_drewN | apply below_drew) | exact HB.out)) hb); clear BKa; have BKa := BKa_n; clear BKa_n; clear BKv; have BKv := BKv_n; clear BKv_n; clear BKr; have BKr := BKr_n; clear BKr_n; clear HB; have HB := HB_n; clear HB_n; have BKo := Lib.hid (show Blk Wo go 46 (U (List.replicate 6 0)) from hbox); clear hbox hg hb)
    | ((with_reducible refine wpList_stall rfl 46 5 _ rfl rfl go ?hx (U (List.replicate 6 0)) ?hy 46 (U (List.replicate 6 0)) ?hB ?hi ?hf (U_one _) ?_); (case hx => rfl); (case hy => rfl); (case hB => exact (by (with_reducible repeat (first | apply Blk.alloc | apply Blk.drewN | apply Blk.drew)); exact BKo.out)); (case hi => rw [U_length, List.length_replicate]; exact inf46); (case hf => rfl); intro W_ hbk hfar hbel; have BKa_n := Lib.hid (Blk.other (by (with_reducible repeat (first | apply Blk.alloc | apply Blk.drewN | apply Blk.drew)); exact BKa.out) hfar NEao); have BKv_n := Lib.hid (Blk.other (by (with_reducible repeat (first | apply Blk.alloc | apply Blk.drewN | apply Blk.drew)); exact BKv.out) hfar NEvo); have BKr_n := Lib.hid (Blk.other (by (with_reducible repeat (first | apply Blk.alloc | apply Blk.drewN | apply Blk.drew)); exact BKr.out) hfar NEro); have HB_n := Lib.hid (hbel _ _ (by repeat (first | (with_reducible first | exact HB.out | apply below_alloc | apply pw_below_drewN | apply below_drew) | exact HB.out)) GWo.out); have BKo_n := Lib.hid (hbk); clear BKa; have BKa := BKa_n; clear BKa_n; clear BKv; have BKv := BKv_n; clear BKv_n; clear BKr; have BKr := BKr_n; clear BKr_n; clear HB; have HB := HB_n; clear HB_n; clear BKo; have BKo := BKo_n; clear BKo_n; clear hbk hfar hbel; have hr0 : W_.cell? ⟨ga, 0, none⟩ = some (.int .i8 (R : Int)) := BKa.out.cell 0))
  go_loopg [11] R (fun gg v6 wr => ∃ i : Nat, Hid (i ≤ R) ∧ Hid (R - i ≤ gg) ∧ v6 = .int .i8 (i : Int) ∧ Hid (Blk wr ga 29 (M R C l)) ∧ Hid (Blk wr gv 46 (U v)) ∧ Hid (Blk wr gr 46 (U (List.replicate 6 0))) ∧ Hid (Blk wr go 46 (U (mv l v C i))) ∧ Hid (Below w.heap.size w wr))
  case atStart => exact ⟨0, Lib.hid (Nat.zero_le _), Lib.hid (Nat.sub_le _ _), rfl, BKa, BKv, BKr, Lib.hid (by rw [mv_zero]; exact BKo.out), HB⟩
  case round =>
      clear BKa HB BKr BKo BKv
      obtain ⟨i, hn, hg, rfl, BKa, BKv, BKr, BKo, HB⟩ := hrel
      by_cases hlt : i < R
      · have hb0 : decide ((i : Int) < (R : Int)) = true := decide_eq_true (by omega)
        have hb1 : (i : Int) < (R : Int) := by omega
        have hb2 : (i : Int) < 6 := by have := HRC.out; omega
        have hi0 : (0 : Int) ≤ (i : Int) := by omega
        have hib : i < 9223372036854775807 := by have := HRC.out; omega
        have hc1 : wr.cell? ⟨ga, 1, none⟩ = some (.int .i8 (C : Int)) := BKa.out.cell 1
        have HNi := Lib.hid hlt
        have HGi := Lib.hid hg.out
        clear hlt hn hg
        go_wp2
        clear hc1
        go_loopg [16] C (fun gg v8 wq => ∃ k : Nat, Hid (k ≤ C) ∧ Hid (C - k ≤ gg) ∧ v8 = .int .i8 (k : Int) ∧ Hid (Blk wq ga 29 (M R C l)) ∧ Hid (Blk wq gv 46 (U v)) ∧ Hid (Blk wq gr 46 (U (List.replicate 6 0))) ∧ Hid (Blk wq go 46 (U (mw l v C i k))) ∧ Hid (Below w.heap.size w wq))
        case atStart => exact ⟨0, Lib.hid (Nat.zero_le _), Lib.hid (Nat.sub_le _ _), rfl, BKa, BKv, BKr, Lib.hid (by rw [mw_zero _ _ _ _ (by have := HNi.out; have := HRC.out; omega)]; exact BKo.out), HB⟩
        case round =>
          clear BKa HB BKr BKo BKv
          obtain ⟨k, hn, hg, rfl, BKa, BKv, BKr, BKo, HB⟩ := hrel
          by_cases hlt : k < C
          · have hN : i * 6 + k < l.length := by rw [HL.out]; have := HNi.out; have := HRC.out; omega
            have hNv : k < v.length := by rw [HV.out]; have := HRC.out; omega
            have hi6 : i < 6 := by have := HRC.out; have := HNi.out; omega
            have hx := (BKa.out.cell (i * 6 + k + 2)).trans (M_get hN)
            rw [show i * 6 + k + 2 = 2 + i * 6 + k by omega] at hx
            have hy := (BKv.out.cell k).trans (U_get hNv)
            have hd := (BKo.out.cell i).trans (U_get (by rw [mw_length]; exact hi6))
            rw [mw_at _ _ _ _ _ hi6] at hd
            have hf := BKo.out.frozen i
            have TS := Lib.hid (mw_set l v C i k)
            rw [show dot l v i (k + 1) = Go.bits .xor .u16 (dot l v i k) (tm (l.getD (i * 6 + k) 0) (v.getD k 0)) from rfl] at TS
            have H1 := Lib.hid (HW.out.at_ hN)
            have H2 := Lib.hid (HX.out.at_ hNv)
            generalize l.getD (i * 6 + k) 0 = x at hx TS H1
            generalize v.getD k 0 = y at hy TS H2
            generalize dot l v i k = d at TS hd
            have kb0 : decide ((k : Int) < (C : Int)) = true := decide_eq_true (by omega)
            have kb1 : (k : Int) < (C : Int) := by omega
            have kb2 : (k : Int) < 6 := by have := HRC.out; omega
            have ki0 : (0 : Int) ≤ (k : Int) := by omega
            have kib : k < 9223372036854775807 := by omega
            have HN := Lib.hid hlt
            clear hlt hn hN hNv hi6
            go_wp2
            have hf_d : wr.drew.frozen? ⟨go, i, none⟩ = false := hf
            clear hf
            have BKa_n := Lib.hid (Blk.drew BKa.out)
            have BKv_n := Lib.hid (Blk.drew BKv.out)
            have BKr_n := Lib.hid (Blk.drew BKr.out)
            have BKo_n := Lib.hid (Blk.drew BKo.out)
            have HB_n := Lib.hid (below_drew HB.out)
            clear BKa
            have BKa := BKa_n
            clear BKa_n
            clear BKv
            have BKv := BKv_n
            clear BKv_n
            clear BKr
            have BKr := BKr_n
            clear BKr_n
            clear BKo
            have BKo := BKo_n
            clear BKo_n
            clear HB
            have HB := HB_n
            clear HB_n
            refine start_ (n := 16) (S := fun w' => w'.cell? ⟨go, i, none⟩ = some (.int .u16 d) ∧ w'.cell? ⟨ga, 2 + i * 6 + k, none⟩ = some (.int .u16 x) ∧ w'.cell? ⟨gv, k, none⟩ = some (.int .u16 y)) (ds := [15]) #[false, false, false, false, false, false, false, false, false, false, false, false, false, false, false, false] (by kernel_rfl) rfl rfl ⟨hd, hx, hy⟩ (fun hHeld => ?_)
            have hd_d : wr.drew.cell? ⟨go, i, none⟩ = some (.int .u16 d) := hd
            clear hd
            have hx_d : wr.drew.cell? ⟨ga, 2 + i * 6 + k, none⟩ = some (.int .u16 x) := hx
            clear hx
            have hy_d : wr.drew.cell? ⟨gv, k, none⟩ = some (.int .u16 y) := hy
            clear hy
            generalize wr.drew = W24 at BKa BKv BKr BKo HB hd_d hx_d hy_d hf_d hHeld ⊢
            refine pure_ (i := 0) (N := some 19) (v := ?_) (a' := ?_) #[true, false, false, false, false, false, false, false, false, false, false, false, false, false, false, false] rfl rfl (by kernel_rfl) (fun _ _ _ h => h) (Or.inl ⟨by rfl, ?_⟩) ?_ ?_
            rotate_left
            · intro w'
              go_simp
              with_reducible rfl
            rotate_left
            · simp only [Act.put, List.setIfInBounds_toArray, List.set_cons_zero, List.set_cons_succ, i64_w, i32_w]
              rfl
            refine pure_ (i := 1) (N := some 20) (v := ?_) (a' := ?_) #[true, true, false, false, false, false, false, false, false, false, false, false, false, false, false, false] rfl rfl (by kernel_rfl) (fun _ _ _ h => h) (Or.inl ⟨by rfl, ?_⟩) ?_ ?_
            rotate_left
            · intro w'
              go_simp
              with_reducible rfl
            rotate_left
            · simp only [Act.put, List.setIfInBounds_toArray, List.set_cons_zero, List.set_cons_succ, i64_w, i32_w]
              rfl
            refine pure_ (i := 3) (N := some 22) (v := ?_) (a' := ?_) #[true, true, false, true, false, false, false, false, false, false, false, false, false, false, false, false] rfl rfl (by kernel_rfl) (fun _ _ _ h => h) (Or.inl ⟨by rfl, ?_⟩) ?_ ?_
            rotate_left
            · intro w'
              go_simp
              with_reducible rfl
            rotate_left
            · simp only [Act.put, List.setIfInBounds_toArray, List.set_cons_zero, List.set_cons_succ, i64_w, i32_w]
              rfl
            refine pure_ (i := 4) (N := some 23) (v := ?_) (a' := ?_) #[true, true, false, true, true, false, false, false, false, false, false, false, false, false, false, false] rfl rfl (by kernel_rfl) (fun _ _ _ h => h) (Or.inl ⟨by rfl, ?_⟩) ?_ ?_
            rotate_left
            · intro w'
              go_simp
              with_reducible rfl
            rotate_left
            · simp only [Act.put, List.setIfInBounds_toArray, List.set_cons_zero, List.set_cons_succ, i64_w, i32_w]
              rfl
            refine pure_ (i := 5) (N := some 24) (v := ?_) (a' := ?_) #[true, true, false, true, true, true, false, false, false, false, false, false, false, false, false, false] rfl rfl (by kernel_rfl) (fun _ _ _ h => h) (Or.inl ⟨by rfl, ?_⟩) ?_ ?_
            rotate_left
            · intro w'
              go_simp
              with_reducible rfl
            rotate_left
            · simp only [Act.put, List.setIfInBounds_toArray, List.set_cons_zero, List.set_cons_succ, i64_w, i32_w]
              rfl
            refine pure_ (i := 6) (N := some 25) (v := ?_) (a' := ?_) #[true, true, false, true, true, true, true, false, false, false, false, false, false, false, false, false] rfl rfl (by kernel_rfl) (fun _ _ _ h => h) (Or.inl ⟨by rfl, ?_⟩) ?_ ?_
            rotate_left
            · intro w'
              go_simp
              with_reducible rfl
            rotate_left
            · simp only [Act.put, List.setIfInBounds_toArray, List.set_cons_zero, List.set_cons_succ, i64_w, i32_w]
              rfl
            refine pure_ (i := 7) (N := some 26) (v := ?_) (a' := ?_) #[true, true, false, true, true, true, true, true, false, false, false, false, false, false, false, false] rfl rfl (by kernel_rfl) (fun _ _ _ h => h) (Or.inl ⟨by rfl, ?_⟩) ?_ ?_
            rotate_left
            · intro w'
              go_simp
              with_reducible rfl
            rotate_left
            · simp only [Act.put, List.setIfInBounds_toArray, List.set_cons_zero, List.set_cons_succ, i64_w, i32_w]
              rfl
            refine pure_ (i := 9) (N := some 28) (v := ?_) (a' := ?_) #[true, true, false, true, true, true, true, true, false, true, false, false, false, false, false, false] rfl rfl (by kernel_rfl) (fun _ _ _ h => h) (Or.inl ⟨by rfl, ?_⟩) ?_ ?_
            rotate_left
            · intro w'
              go_simp
              with_reducible rfl
            rotate_left
            · simp only [Act.put, List.setIfInBounds_toArray, List.set_cons_zero, List.set_cons_succ, i64_w, i32_w]
              rfl
            refine pure_ (i := 10) (N := some 29) (v := ?_) (a' := ?_) #[true, true, false, true, true, true, true, true, false, true, true, false, false, false, false, false] rfl rfl (by kernel_rfl) (fun _ _ _ h => h) (Or.inl ⟨by rfl, ?_⟩) ?_ ?_
            rotate_left
            · intro w'
              go_simp
              with_reducible rfl
            rotate_left
            · simp only [Act.put, List.setIfInBounds_toArray, List.set_cons_zero, List.set_cons_succ, i64_w, i32_w]
              rfl
            refine take_ (i := 2) (N := some 21) (v := ?_) (a' := ?_) #[true, true, true, true, true, true, true, true, false, true, true, false, false, false, false, false] rfl rfl (by kernel_rfl) (fun _ _ _ h => h) (Or.inl ⟨by rfl, ?_⟩) hHeld ?_ ?_
            rotate_left
            · rintro w' ⟨s0, s1, s2⟩
              go_simp
              with_reducible rfl
            rotate_left
            · simp only [Act.put, List.setIfInBounds_toArray, List.set_cons_zero, List.set_cons_succ, i64_w, i32_w]
              rfl
            refine take_ (i := 8) (N := some 27) (v := ?_) (a' := ?_) #[true, true, true, true, true, true, true, true, true, true, true, false, false, false, false, false] rfl rfl (by kernel_rfl) (fun _ _ _ h => h) (Or.inl ⟨by rfl, ?_⟩) hHeld ?_ ?_
            rotate_left
            · rintro w' ⟨s0, s1, s2⟩
              go_simp
              with_reducible rfl
            rotate_left
            · simp only [Act.put, List.setIfInBounds_toArray, List.set_cons_zero, List.set_cons_succ, i64_w, i32_w]
              rfl
            refine take_ (i := 11) (N := some 30) (v := ?_) (a' := ?_) #[true, true, true, true, true, true, true, true, true, true, true, true, false, false, false, false] rfl rfl (by kernel_rfl) (fun _ _ _ h => h) (Or.inl ⟨by rfl, ?_⟩) hHeld ?_ ?_
            rotate_left
            · rintro w' ⟨s0, s1, s2⟩
              go_simp
              with_reducible rfl
            rotate_left
            · simp only [Act.put, List.setIfInBounds_toArray, List.set_cons_zero, List.set_cons_succ, i64_w, i32_w]
              rfl
            refine one_ (i := 12) (N := some 31) #[true, true, true, true, true, true, true, true, true, true, true, true, true, false, false, false] rfl rfl (by kernel_rfl) (by decide) (fun K hK => ?_)
            refine goes_ Try.func46 (by kernel_rfl) rfl #[.int .u16 x, .int .u16 y] (by rfl) rfl rfl (by (try simp only [List.map_toArray, List.map_cons, List.map_nil]); first | done | rfl) ?_
            with_reducible refine (itm_calls H1.out H2.out _).mono ?_
            rintro e w' ⟨rfl, ⟨nd, rfl⟩⟩
            refine ⟨_, rfl, ?_⟩
            refine hK.out _ _ hHeld (fun hHeld => ?_)
            clear hK K
            refine norm_ (a' := ?_) ?_ ?_
            rotate_left
            · show Act.put _ (some 31) _ = _
              simp only [Act.put, List.setIfInBounds_toArray, List.set_cons_zero, List.set_cons_succ, i64_w, i32_w]
              rfl
            refine pure_ (i := 13) (N := some 32) (v := ?_) (a' := ?_) #[true, true, true, true, true, true, true, true, true, true, true, true, true, true, false, false] rfl rfl (by kernel_rfl) (fun _ _ _ h => h) (Or.inl ⟨by rfl, ?_⟩) ?_ ?_
            rotate_left
            · intro w'
              go_simp
              with_reducible rfl
            rotate_left
            · simp only [Act.put, List.setIfInBounds_toArray, List.set_cons_zero, List.set_cons_succ, i64_w, i32_w]
              rfl
            refine pure_ (i := 14) (N := some 33) (v := ?_) (a' := ?_) #[true, true, true, true, true, true, true, true, true, true, true, true, true, true, true, false] rfl rfl (by kernel_rfl) (fun _ _ _ h => h) (Or.inl ⟨by rfl, ?_⟩) ?_ ?_
            rotate_left
            · intro w'
              go_simp
              with_reducible rfl
            rotate_left
            · simp only [Act.put, List.setIfInBounds_toArray, List.set_cons_zero, List.set_cons_succ, i64_w, i32_w]
              rfl
            refine last_ (i := 15) (N := none) #[true, true, true, true, true, true, true, true, true, true, true, true, true, true, true, true] rfl rfl (by kernel_rfl) (by decide) (fun K hK => ?_)
            refine skip_ (w1 := ?_) (by rfl) rfl ?_ ?_
            rotate_left
            · go_simp
              rfl
            refine hK.out _ _ ?_
            clear hK K
            refine done_ (by kernel_rfl) ?_
            go_wp2
            go_roundg (C - (k + 1))
            case measure => have := hg.out; have := HN.out; omega
            case rel => exact ⟨k + 1, Lib.hid HN.out, Lib.hid (Nat.le_refl _), by first | rfl | go_num, Lib.hid ((BKa.out.drewN nd).far NEao _ _), Lib.hid ((BKv.out.drewN nd).far NEvo _ _), Lib.hid ((BKr.out.drewN nd).far NEro _ _), Lib.hid (by rw [← TS.out, ← U_set]; exact (BKo.out.drewN nd).set _ _), Lib.hid (below_set (pw_below_drewN HB.out _) GWo.out)⟩
          · have en : k = C := by have := hn.out; omega
            subst en
            have kb0 : decide ((k : Int) < (k : Int)) = false := decide_eq_false (by omega)
            have TS := Lib.hid (mv_set l v k i (by have := HRC.out; have := HNi.out; omega))
            clear hn hg hlt
            go_wp2
            go_roundg (R - (i + 1))
            case measure => have := HGi.out; have := HNi.out; omega
            case rel => exact ⟨i + 1, Lib.hid HNi.out, Lib.hid (Nat.le_refl _), by first | rfl | go_num, BKa, BKv, BKr, Lib.hid (by rw [← TS.out]; exact BKo.out), HB⟩
      · have en : i = R := by have := hn.out; omega
        subst en
        have hb0 : decide ((i : Int) < (i : Int)) = false := decide_eq_false (by omega)
        clear hn hg hlt
        go_wp2_with (first
    | ((with_reducible refine wpList_ldall rfl 46 (.tmp 5) rfl go ?hx 46 (U (mv l v C i)) _ ?hB Try.underlying46 rfl ?hi ?_); (case hx => rfl); (case hB => exact (by (with_reducible repeat (first | apply Blk.alloc | apply Blk.drewN | apply Blk.drew)); exact BKo.out)); (case hi => rw [U_length, mv_length]; exact inf46))
    | ((with_reducible refine wpList_stall rfl 46 4 _ rfl rfl gr ?hx (U (mv l v C i)) ?hy 46 (U (List.replicate 6 0)) ?hB ?hi ?hf (U_one _) ?_); (case hx => rfl); (case hy => rfl); (case hB => exact (by (with_reducible repeat (first | apply Blk.alloc | apply Blk.drewN | apply Blk.drew)); exact BKr.out)); (case hi => rw [U_length, mv_length]; exact inf46); (case hf => rw [U_length, mv_length]; rfl); intro W_ hbk hfar hbel; have BKa_n := Lib.hid (Blk.other (by (with_reducible repeat (first | apply Blk.alloc | apply Blk.drewN | apply Blk.drew)); exact BKa.out) hfar NEar); have BKv_n := Lib.hid (Blk.other (by (with_reducible repeat (first | apply Blk.alloc | apply Blk.drewN | apply Blk.drew)); exact BKv.out) hfar NEvr); have BKo_n := Lib.hid (Blk.other (by (with_reducible repeat (first | apply Blk.alloc | apply Blk.drewN | apply Blk.drew)); exact BKo.out) hfar NEor); have HB_n := Lib.hid (hbel _ _ (by repeat (first | (with_reducible first | exact HB.out | apply below_alloc | apply pw_below_drewN | apply below_drew) | exact HB.out)) GWr.out); have BKr_n := Lib.hid (hbk); clear BKa; have BKa := BKa_n; clear BKa_n; clear BKv; have BKv := BKv_n; clear BKv_n; clear BKo; have BKo := BKo_n; clear BKo_n; clear HB; have HB := HB_n; clear HB_n; clear BKr; have BKr := BKr_n; clear BKr_n; clear hbk hfar hbel))
        exact bodyPost_ret (results_cell_row Try.results50 _ _ gr 46 _ (0, 0) _ rfl BKr.out Try.underlying46 rfl (by simp only [List.size_toArray]; rw [U_length, mv_length]; exact inf46)) rfl ⟨rfl, HB.out⟩

end Go.Proofs.Ythjbeglmdifhdaa.Given
