/- Walks of functions that the print does not take. -/
import Derived.Test.YthjbeglmdifhdaaProg
import Derived.Below
import Derived.Deep.Draws
import Derived.Deep.AppendLies
import Derived.Maps.AppendAt
import Derived.OwnWalk
import Derived.Laws.BytesArg
import Derived.Laws.MakeOwn
import Derived.Laws.OwnMore
import Derived.Deep.OwnRows
import Derived.Tactics
import Derived.Lib.ConvBytes
import Derived.Laws.Slices
import Derived.WalkKit
import Derived.KernelRfl
import Derived.RowKit3
import Derived.Deep.LoopGhost
import Derived.Deep.QuietTactic
import Derived.BigQuiet
import Derived.WideLaws
import Derived.Deep.DeepCutAuto
import Derived.Deep.CutBlock
import Derived.Deep.RegionHeld3
import Derived.Laws.Rows
import Derived.Lib.AppendStr
import Derived.ArgAppend
import Derived.Laws.IdiomCopy
import Derived.OrdersHeld
import Derived.Laws.BitsLemmas
import Derived.RowKit
import Derived.Lib.Hide
import Derived.WalkSpells
import Derived.Test.YthjbeglmdifhdaaWWords
import Derived.Test.YthjbeglmdifhdaaWLast
import Derived.Test.YthjbeglmdifhdaaWTab
import Derived.Test.YthjbeglmdifhdaaWFour
import Derived.Test.YthjbeglmdifhdaaWQPut
import Derived.Test.YthjbeglmdifhdaaWApart
import Derived.Test.YthjbeglmdifhdaaWArr
import Derived.Test.YthjbeglmdifhdaaWZeros
import Derived.Test.YthjbeglmdifhdaaWFoot
import Derived.Test.YthjbeglmdifhdaaWKept
import Derived.Test.YthjbeglmdifhdaaWShare
import Derived.Test.YthjbeglmdifhdaaWN
import Derived.Test.YthjbeglmdifhdaaWFootNe
import Derived.Test.YthjbeglmdifhdaaWAt
import Derived.Test.YthjbeglmdifhdaaWEqStruct
import Derived.Test.YthjbeglmdifhdaaWRepsOne
import Derived.Test.YthjbeglmdifhdaaWInv
import Derived.Test.YthjbeglmdifhdaaWInvWords
import Derived.Test.YthjbeglmdifhdaaWGuard
import Derived.Test.YthjbeglmdifhdaaWNEv
import Derived.Test.YthjbeglmdifhdaaWMore
import Derived.Test.YthjbeglmdifhdaaN1
import Derived.Test.YthjbeglmdifhdaaME
namespace Go.Proofs.Ythjbeglmdifhdaa.Given
open Go.RowKit Go.Proofs.YthjbeglmdifhdaaW.PrintWords Go.Proofs.YthjbeglmdifhdaaW.PrintLast Go.Proofs.YthjbeglmdifhdaaW.PrintMore Go.Proofs.Ythjbeglmdifhdaa.NimF Go.Proofs.Ythjbeglmdifhdaa.NimGo
set_option linter.unusedVariables false
set_option linter.unusedSimpArgs false
/-- what is multiplied already: the rows ahead, and the columns ahead in the row -/
def scI (l : List Int) (b : Int) (C i k : Nat) : List Int := (List.range l.length).map fun j => if (j / 6 < i ∧ j % 6 < C) ∨ (j / 6 = i ∧ j % 6 < k) then tm (l.getD j 0) b else l.getD j 0
theorem scI_length (l : List Int) (b : Int) (C i k : Nat) : (scI l b C i k).length = l.length := by simp [scI]
theorem scI_get (l : List Int) (b : Int) (C i k : Nat) {j : Nat} (hj : j < l.length) : (scI l b C i k)[j]? = some (if (j / 6 < i ∧ j % 6 < C) ∨ (j / 6 = i ∧ j % 6 < k) then tm (l.getD j 0) b else l.getD j 0) := by
  unfold scI
  rw [List.getElem?_map, List.getElem?_range hj]
  rfl
theorem getD_of {l : List Int} {j : Nat} {x : Int} (h : l[j]? = some x) : l.getD j 0 = x := by simp [List.getD, h]
theorem ext_len {l l' : List Int} (h : l.length = l'.length) (hg : ∀ j, j < l.length → l[j]? = l'[j]?) : l = l' := by
  apply List.ext_getElem?
  intro j
  rcases Nat.lt_or_ge j l.length with hj | hj
  · exact hg j hj
  · rw [List.getElem?_eq_none hj, List.getElem?_eq_none (by omega)]
theorem get_of {l : List Int} {j : Nat} (h : j < l.length) : l[j]? = some (l.getD j 0) := by simp [List.getD, h]
theorem scI_zero (l : List Int) (b : Int) (C : Nat) : scI l b C 0 0 = l := by
  refine ext_len (scI_length _ _ _ _ _) (fun j hj => ?_)
  rw [scI_length] at hj
  rw [scI_get l b C 0 0 hj, if_neg (by omega), get_of hj]
theorem scI_at (l : List Int) (b : Int) (C i k : Nat) (hk : k < 6) (h : i * 6 + k < l.length) : (scI l b C i k).getD (i * 6 + k) 0 = l.getD (i * 6 + k) 0 :=
  getD_of (by rw [scI_get l b C i k h, if_neg (by omega)])
theorem scI_set (l : List Int) (b : Int) (C i k : Nat) (hk : k < 6) (h : i * 6 + k < l.length) : (scI l b C i k).set (i * 6 + k) (tm (l.getD (i * 6 + k) 0) b) = scI l b C i (k + 1) := by
  refine ext_len (by rw [List.length_set, scI_length, scI_length]) (fun j hj => ?_)
  rw [List.length_set, scI_length] at hj
  rw [scI_get l b C i (k + 1) hj, List.getElem?_set]
  by_cases e : i * 6 + k = j
  · subst e
    rw [if_pos rfl, if_pos (by rw [scI_length]; exact hj), if_pos (by omega)]
  · rw [if_neg e, scI_get l b C i k hj]
    by_cases q : (j / 6 < i ∧ j % 6 < C) ∨ (j / 6 = i ∧ j % 6 < k)
    · rw [if_pos q, if_pos (by omega)]
    · rw [if_neg q, if_neg (by omega)]
theorem scI_row (l : List Int) (b : Int) (C i : Nat) : scI l b C i C = scI l b C (i + 1) 0 := by
  refine ext_len (by rw [scI_length, scI_length]) (fun j hj => ?_)
  rw [scI_length] at hj
  rw [scI_get l b C i C hj, scI_get l b C (i + 1) 0 hj]
  by_cases q : (j / 6 < i ∧ j % 6 < C) ∨ (j / 6 = i ∧ j % 6 < C)
  · rw [if_pos q, if_pos (by omega)]
  · rw [if_neg q, if_neg (by omega)]
theorem okL_at {r c : Int} {l : List Int} (h : okL r c l 36 = true) {i k : Nat} (hi : i < 6) (hk : k < 6) : okAt r c l i k = true := by
  have : okL r c l (i * 6 + k + 1) = true := by
    cases e : okL r c l (i * 6 + k + 1) with
    | true => rfl
    | false => rw [okL_no e (by omega)] at h; cases h
  rw [okL_step r c l i k hk, Bool.and_eq_true] at this
  exact this.2
/-- outside its size a valid matrix has zeros -/
theorem okL_zero {R C : Nat} {l : List Int} (h : okL (R : Int) (C : Int) l 36 = true) {i k : Nat} (hi : i < 6) (hk : k < 6) (ho : R ≤ i ∨ C ≤ k) : l.getD (i * 6 + k) 0 = 0 := by
  have := okL_at h hi hk
  unfold okAt at this
  have d : (decide ((R : Int) ≤ (i : Int)) || decide ((C : Int) ≤ (k : Int))) = true := by
    rcases ho with ho | ho
    · rw [decide_eq_true (by omega), Bool.true_or]
    · rw [decide_eq_true (show (C : Int) ≤ (k : Int) by omega), Bool.or_true]
  rw [d, Bool.true_and] at this
  simpa using this
theorem tm_zero (b : Int) : tm 0 b = 0 := by
  unfold tm
  rw [show (0 : Int).toNat = 0 from rfl, nm_zero_left]
  rfl
theorem scI_all (l : List Int) (b : Int) (R C : Nat) (hl : l.length = 36) (h : okL (R : Int) (C : Int) l 36 = true) : scI l b C R 0 = l.map (fun x => tm x b) := by
  refine ext_len (by rw [scI_length, List.length_map]) (fun j hj => ?_)
  rw [scI_length] at hj
  rw [scI_get l b C R 0 hj, List.getElem?_map, get_of hj]
  by_cases q : (j / 6 < R ∧ j % 6 < C) ∨ (j / 6 = R ∧ j % 6 < 0)
  · rw [if_pos q]; rfl
  · rw [if_neg q]
    have z := okL_zero h (i := j / 6) (k := j % 6) (by omega) (by omega) (by omega)
    rw [show j / 6 * 6 + j % 6 = j by omega] at z
    rw [z]
    show some 0 = some (tm 0 b)
    rw [tm_zero]

set_option maxHeartbeats 8000000 in
set_option maxRecDepth 100000 in
theorem implScale_calls (r c : Int) (l : List Int) (b : Int) (hl : l.length = 36) (h1 : -128 ≤ r) (h2 : r ≤ 127) (h3 : -128 ≤ c) (h4 : c ≤ 127) (hw : W16 l) (hb : w16 b) (w : World) :
    Calls Try.prog 18 #[.agg (M r c l).toArray, .int .u16 b] w fun e w' => e = .returned (if okM r c l = true then .tuple #[.agg (M r c (l.map fun x => tm x b)).toArray, .int .i64 0] else .tuple #[.agg (M 0 0 (List.replicate 36 0)).toArray, .int .i64 1]) ∧ Below w.heap.size w w' := by
  have HL := Lib.hid hl
  have HW := Lib.hid hw
  have Hb := Lib.hid hb
  have HOK := Lib.hid (fun W => validM_calls r c l hl h1 h2 h3 h4 W _ rfl)
  clear hl h1 h2 h3 h4 hw hb
  have HB := Lib.hid (Below.refl w.heap.size w)
  obtain ⟨v, hv⟩ : ∃ v, okM r c l = v := ⟨_, rfl⟩
  rw [hv] at HOK ⊢
  cases v with
  | false =>
    clear hv
    rw [if_neg (by simp)]
    go_enter Try.func18, Try.ntmps18
    go_wp2_with (first
    | ((with_reducible refine gate_dst (N := 2) rfl ?_); refine box_event ?hg (N := 2) ?hd (cs := (M r c l).toArray) (t := 29) ?hr ?_; (case hd => rfl); (case hg => rfl); (case hr => first | (go_simp; done) | (go_simp; rfl)); intro ga hg Wa hbox hb; have GWa := Lib.hid ((by rw [hg]; exact below_size (w := w) (by repeat (first | (with_reducible first | exact HB.out | apply below_alloc | apply pw_below_drewN | apply below_drew) | exact HB.out))) : w.heap.size ≤ ga); have HB_n := Lib.hid (below_step (w := w) (by repeat (first | (with_reducible first | exact HB.out | apply below_alloc | apply pw_below_drewN | apply below_drew) | exact HB.out)) hb); clear HB; have HB := HB_n; clear HB_n; have BKa := Lib.hid (show Blk Wa ga 29 (M r c l) from hbox); clear hbox hg hb)
    | ((with_reducible refine gate_dst (N := 4) rfl ?_); refine box_event ?hg (N := 4) ?hd (cs := (M 0 0 (List.replicate 36 0)).toArray) (t := 29) ?hr ?_; (case hd => rfl); (case hg => rfl); (case hr => first | (go_simp; done) | (go_simp; rfl)); intro gr hg Wr hbox hb; have GWr := Lib.hid ((by rw [hg]; exact below_size (w := w) (by repeat (first | (with_reducible first | exact HB.out | apply below_alloc | apply pw_below_drewN | apply below_drew) | exact HB.out))) : w.heap.size ≤ gr); have NEar : ga ≠ gr := (by rw [hg]; exact Nat.ne_of_lt (Blk.lt (by (with_reducible repeat (first | apply Blk.alloc | apply Blk.drewN | apply Blk.drew)); exact BKa.out))); have NEra : gr ≠ ga := NEar.symm; have BKa_n := Lib.hid (Blk.below (by (with_reducible repeat (first | apply Blk.alloc | apply Blk.drewN | apply Blk.drew)); exact BKa.out) hb); have HB_n := Lib.hid (below_step (w := w) (by repeat (first | (with_reducible first | exact HB.out | apply below_alloc | apply pw_below_drewN | apply below_drew) | exact HB.out)) hb); clear BKa; have BKa := BKa_n; clear BKa_n; clear HB; have HB := HB_n; clear HB_n; have BKr := Lib.hid (show Blk Wr gr 29 (M 0 0 (List.replicate 36 0)) from hbox); clear hbox hg hb)
    | ((with_reducible refine wpList_ldall rfl 29 (.tmp 2) rfl ga ?hx 29 (M r c l) _ ?hB Try.underlying29 rfl ?hi ?_); (case hx => rfl); (case hB => exact (by (with_reducible repeat (first | apply Blk.alloc | apply Blk.drewN | apply Blk.drew)); exact BKa.out)); (case hi => rw [M_length, HL.out]; exact inf29))
    | (go_at_call 45; (with_reducible refine (HOK.out _).mono ?_); rintro e W_ ⟨rfl, hb⟩; have BKa_n := Lib.hid (Blk.below (by (with_reducible repeat (first | apply Blk.alloc | apply Blk.drewN | apply Blk.drew)); exact BKa.out) hb); have BKr_n := Lib.hid (Blk.below (by (with_reducible repeat (first | apply Blk.alloc | apply Blk.drewN | apply Blk.drew)); exact BKr.out) hb); have HB_n := Lib.hid (below_step (w := w) (by repeat (first | (with_reducible first | exact HB.out | apply below_alloc | apply pw_below_drewN | apply below_drew) | exact HB.out)) hb); clear BKa; have BKa := BKa_n; clear BKa_n; clear BKr; have BKr := BKr_n; clear BKr_n; clear HB; have HB := HB_n; clear HB_n; clear hb)
    | ((with_reducible refine wpList_stall rfl 29 4 _ rfl rfl gr ?hx (M 0 0 (List.replicate 36 0)) ?hy 29 (M 0 0 (List.replicate 36 0)) ?hB ?hi ?hf (M_one _ _ _) ?_); (case hx => rfl); (case hy => rfl); (case hB => exact (by (with_reducible repeat (first | apply Blk.alloc | apply Blk.drewN | apply Blk.drew)); exact BKr.out)); (case hi => rw [M_length, List.length_replicate]; exact inf29); (case hf => rfl); intro W_ hbk hfar hbel; have BKa_n := Lib.hid (Blk.other (by (with_reducible repeat (first | apply Blk.alloc | apply Blk.drewN | apply Blk.drew)); exact BKa.out) hfar NEar); have HB_n := Lib.hid (hbel _ _ (by repeat (first | (with_reducible first | exact HB.out | apply below_alloc | apply pw_below_drewN | apply below_drew) | exact HB.out)) GWr.out); have BKr_n := Lib.hid (hbk); clear BKa; have BKa := BKa_n; clear BKa_n; clear HB; have HB := HB_n; clear HB_n; clear BKr; have BKr := BKr_n; clear BKr_n; clear hbk hfar hbel))
    exact bodyPost_ret (results_ct Try.results18 _ _ gr 29 _ (0, 0) _ rfl BKr.out Try.underlying29 rfl inf29) rfl ⟨rfl, HB.out⟩
  | true =>
    obtain ⟨a1, a2, a3, a4, a5⟩ := okM_in hv
    clear hv
    rw [if_pos rfl]
    obtain ⟨R, rfl⟩ := Int.eq_ofNat_of_zero_le (show 0 ≤ r by omega)
    obtain ⟨C, rfl⟩ := Int.eq_ofNat_of_zero_le (show 0 ≤ c by omega)
    have HRC : Hid (1 ≤ R ∧ R ≤ 6 ∧ 1 ≤ C ∧ C ≤ 6) := Lib.hid (by omega)
    have HO := Lib.hid a5
    clear a1 a2 a3 a4 a5
    go_enter Try.func18, Try.ntmps18
    go_wp2_with (first
    | ((with_reducible refine gate_dst (N := 2) rfl ?_); refine box_event ?hg (N := 2) ?hd (cs := (M R C l).toArray) (t := 29) ?hr ?_; (case hd => rfl); (case hg => rfl); (case hr => first | (go_simp; done) | (go_simp; rfl)); intro ga hg Wa hbox hb; have GWa := Lib.hid ((by rw [hg]; exact below_size (w := w) (by repeat (first | (with_reducible first | exact HB.out | apply below_alloc | apply pw_below_drewN | apply below_drew) | exact HB.out))) : w.heap.size ≤ ga); have HB_n := Lib.hid (below_step (w := w) (by repeat (first | (with_reducible first | exact HB.out | apply below_alloc | apply pw_below_drewN | apply below_drew) | exact HB.out)) hb); clear HB; have HB := HB_n; clear HB_n; have BKa := Lib.hid (show Blk Wa ga 29 (M R C l) from hbox); clear hbox hg hb)
    | ((with_reducible refine gate_dst (N := 4) rfl ?_); refine box_event ?hg (N := 4) ?hd (cs := (M 0 0 (List.replicate 36 0)).toArray) (t := 29) ?hr ?_; (case hd => rfl); (case hg => rfl); (case hr => first | (go_simp; done) | (go_simp; rfl)); intro gr hg Wr hbox hb; have GWr := Lib.hid ((by rw [hg]; exact below_size (w := w) (by repeat (first | (with_reducible first | exact HB.out | apply below_alloc | apply pw_below_drewN | apply below_drew) | exact HB.out))) : w.heap.size ≤ gr); have NEar : ga ≠ gr := (by rw [hg]; exact Nat.ne_of_lt (Blk.lt (by (with_reducible repeat (first | apply Blk.alloc | apply Blk.drewN | apply Blk.drew)); exact BKa.out))); have NEra : gr ≠ ga := NEar.symm; have BKa_n := Lib.hid (Blk.below (by (with_reducible repeat (first | apply Blk.alloc | apply Blk.drewN | apply Blk.drew)); exact BKa.out) hb); have HB_n := Lib.hid (below_step (w := w) (by repeat (first | (with_reducible first | exact HB.out | apply below_alloc | apply pw_below_drewN | apply below_drew) | exact HB.out)) hb); clear BKa; have BKa := BKa_n; clear BKa_n; clear HB; have HB := HB_n; clear HB_n; have BKr := Lib.hid (show Blk Wr gr 29 (M 0 0 (List.replicate 36 0)) from hbox); clear hbox hg hb)
    | ((with_reducible refine wpList_ldall rfl 29 (.tmp 2) rfl ga ?hx 29 (M R C l) _ ?hB Try.underlying29 rfl ?hi ?_); (case hx => rfl); (case hB => exact (by (with_reducible repeat (first | apply Blk.alloc | apply Blk.drewN | apply Blk.drew)); exact BKa.out)); (case hi => rw [M_length, HL.out]; exact inf29))
    | (go_at_call 45; (with_reducible refine (HOK.out _).mono ?_); rintro e W_ ⟨rfl, hb⟩; have BKa_n := Lib.hid (Blk.below (by (with_reducible repeat (first | apply Blk.alloc | apply Blk.drewN | apply Blk.drew)); exact BKa.out) hb); have BKr_n := Lib.hid (Blk.below (by (with_reducible repeat (first | apply Blk.alloc | apply Blk.drewN | apply Blk.drew)); exact BKr.out) hb); have HB_n := Lib.hid (below_step (w := w) (by repeat (first | (with_reducible first | exact HB.out | apply below_alloc | apply pw_below_drewN | apply below_drew) | exact HB.out)) hb); clear BKa; have BKa := BKa_n; clear BKa_n; clear BKr; have BKr := BKr_n; clear BKr_n; clear HB; have HB := HB_n; clear HB_n; clear hb; have hr0 : W_.cell? ⟨ga, 0, none⟩ = some (.int .i8 (R : Int)) := BKa.out.cell 0))
    go_loopg [14] R (fun gg v3 wr => ∃ i : Nat, Hid (i ≤ R) ∧ Hid (R - i ≤ gg) ∧ v3 = .int .i8 (i : Int) ∧ Hid (Blk wr ga 29 (M R C (scI l b C i 0))) ∧ Hid (Blk wr gr 29 (M 0 0 (List.replicate 36 0))) ∧ Hid (Below w.heap.size w wr))
    case atStart => exact ⟨0, Lib.hid (Nat.zero_le _), Lib.hid (Nat.sub_le _ _), rfl, Lib.hid (by rw [scI_zero]; exact BKa.out), BKr, HB⟩
    case round =>
      clear BKa HB BKr
      obtain ⟨i, hn, hg, rfl, BKa, BKr, HB⟩ := hrel
      by_cases hlt : i < R
      · have hb0 : decide ((i : Int) < (R : Int)) = true := decide_eq_true (by omega)
        have hb1 : (i : Int) < (R : Int) := by omega
        have hb2 : (i : Int) < 6 := by have := HRC.out; omega
        have hi0 : (0 : Int) ≤ (i : Int) := by omega
        have hib : i < 9223372036854775807 := by have := HRC.out; omega
        have hc1 : wr.cell? ⟨ga, 1, none⟩ = some (.int .i8 (C : Int)) := BKa.out.cell 1
        have HNi := Lib.hid hlt
        have HGi := Lib.hid hg.out
        clear hlt hn hg
        go_wp2
        clear hc1
        go_loopg [19] C (fun gg v4 wq => ∃ k : Nat, Hid (k ≤ C) ∧ Hid (C - k ≤ gg) ∧ v4 = .int .i8 (k : Int) ∧ Hid (Blk wq ga 29 (M R C (scI l b C i k))) ∧ Hid (Blk wq gr 29 (M 0 0 (List.replicate 36 0))) ∧ Hid (Below w.heap.size w wq))
        case atStart => exact ⟨0, Lib.hid (Nat.zero_le _), Lib.hid (Nat.sub_le _ _), rfl, BKa, BKr, HB⟩
        case round =>
          clear BKa HB BKr
          obtain ⟨k, hn, hg, rfl, BKa, BKr, HB⟩ := hrel
          by_cases hlt : k < C
          · have hk6 : k < 6 := by have := HRC.out; omega
            have hN : i * 6 + k < l.length := by rw [HL.out]; have := HNi.out; have := HRC.out; omega
            have hx := (BKa.out.cell (i * 6 + k + 2)).trans (M_get (by rw [scI_length]; exact hN))
            rw [scI_at _ _ _ _ _ hk6 hN, show i * 6 + k + 2 = 2 + i * 6 + k by omega] at hx
            have hf := BKa.out.frozen (2 + i * 6 + k)
            have TS := Lib.hid (scI_set l b C i k hk6 hN)
            have HX := Lib.hid (HW.out.at_ hN)
            generalize l.getD (i * 6 + k) 0 = x at hx TS HX
            have kb0 : decide ((k : Int) < (C : Int)) = true := decide_eq_true (by omega)
            have kb1 : (k : Int) < (C : Int) := by omega
            have kb2 : (k : Int) < 6 := by omega
            have ki0 : (0 : Int) ≤ (k : Int) := by omega
            have kib : k < 9223372036854775807 := by omega
            have HN := Lib.hid hlt
            clear hlt hn hN hk6
            go_wp2
            have hf_d : wr.drew.frozen? ⟨ga, 2 + i * 6 + k, none⟩ = false := hf
            clear hf
            have BKa_n := Lib.hid (Blk.drew BKa.out)
            have BKr_n := Lib.hid (Blk.drew BKr.out)
            have HB_n := Lib.hid (below_drew HB.out)
            clear BKa
            have BKa := BKa_n
            clear BKa_n
            clear BKr
            have BKr := BKr_n
            clear BKr_n
            clear HB
            have HB := HB_n
            clear HB_n
            refine start_ (n := 14) (S := fun w' => w'.cell? ⟨ga, 2 + i * 6 + k, none⟩ = some (.int .u16 x)) (ds := [13]) #[false, false, false, false, false, false, false, false, false, false, false, false, false, false] (by kernel_rfl) rfl rfl hx (fun hHeld => ?_)
            have hx_d : wr.drew.cell? ⟨ga, 2 + i * 6 + k, none⟩ = some (.int .u16 x) := hx
            clear hx
            generalize wr.drew = W24 at BKa BKr HB hx_d hf_d hHeld ⊢
            refine pure_ (i := 0) (N := some 22) (v := ?_) (a' := ?_) #[true, false, false, false, false, false, false, false, false, false, false, false, false, false] rfl rfl (by kernel_rfl) (fun _ _ _ h => h) (Or.inl ⟨by rfl, ?_⟩) ?_ ?_
            rotate_left
            · intro w'
              go_simp
              with_reducible rfl
            rotate_left
            · simp only [Act.put, List.setIfInBounds_toArray, List.set_cons_zero, List.set_cons_succ, i64_w, i32_w]
              rfl
            refine pure_ (i := 1) (N := some 23) (v := ?_) (a' := ?_) #[true, true, false, false, false, false, false, false, false, false, false, false, false, false] rfl rfl (by kernel_rfl) (fun _ _ _ h => h) (Or.inl ⟨by rfl, ?_⟩) ?_ ?_
            rotate_left
            · intro w'
              go_simp
              with_reducible rfl
            rotate_left
            · simp only [Act.put, List.setIfInBounds_toArray, List.set_cons_zero, List.set_cons_succ, i64_w, i32_w]
              rfl
            refine pure_ (i := 2) (N := some 24) (v := ?_) (a' := ?_) #[true, true, true, false, false, false, false, false, false, false, false, false, false, false] rfl rfl (by kernel_rfl) (fun _ _ _ h => h) (Or.inl ⟨by rfl, ?_⟩) ?_ ?_
            rotate_left
            · intro w'
              go_simp
              with_reducible rfl
            rotate_left
            · simp only [Act.put, List.setIfInBounds_toArray, List.set_cons_zero, List.set_cons_succ, i64_w, i32_w]
              rfl
            refine pure_ (i := 3) (N := some 25) (v := ?_) (a' := ?_) #[true, true, true, true, false, false, false, false, false, false, false, false, false, false] rfl rfl (by kernel_rfl) (fun _ _ _ h => h) (Or.inl ⟨by rfl, ?_⟩) ?_ ?_
            rotate_left
            · intro w'
              go_simp
              with_reducible rfl
            rotate_left
            · simp only [Act.put, List.setIfInBounds_toArray, List.set_cons_zero, List.set_cons_succ, i64_w, i32_w]
              rfl
            refine pure_ (i := 4) (N := some 26) (v := ?_) (a' := ?_) #[true, true, true, true, true, false, false, false, false, false, false, false, false, false] rfl rfl (by kernel_rfl) (fun _ _ _ h => h) (Or.inl ⟨by rfl, ?_⟩) ?_ ?_
            rotate_left
            · intro w'
              go_simp
              with_reducible rfl
            rotate_left
            · simp only [Act.put, List.setIfInBounds_toArray, List.set_cons_zero, List.set_cons_succ, i64_w, i32_w]
              rfl
            refine pure_ (i := 5) (N := some 27) (v := ?_) (a' := ?_) #[true, true, true, true, true, true, false, false, false, false, false, false, false, false] rfl rfl (by kernel_rfl) (fun _ _ _ h => h) (Or.inl ⟨by rfl, ?_⟩) ?_ ?_
            rotate_left
            · intro w'
              go_simp
              with_reducible rfl
            rotate_left
            · simp only [Act.put, List.setIfInBounds_toArray, List.set_cons_zero, List.set_cons_succ, i64_w, i32_w]
              rfl
            refine pure_ (i := 6) (N := some 28) (v := ?_) (a' := ?_) #[true, true, true, true, true, true, true, false, false, false, false, false, false, false] rfl rfl (by kernel_rfl) (fun _ _ _ h => h) (Or.inl ⟨by rfl, ?_⟩) ?_ ?_
            rotate_left
            · intro w'
              go_simp
              with_reducible rfl
            rotate_left
            · simp only [Act.put, List.setIfInBounds_toArray, List.set_cons_zero, List.set_cons_succ, i64_w, i32_w]
              rfl
            refine pure_ (i := 8) (N := some 30) (v := ?_) (a' := ?_) #[true, true, true, true, true, true, true, false, true, false, false, false, false, false] rfl rfl (by kernel_rfl) (fun _ _ _ h => h) (Or.inl ⟨by rfl, ?_⟩) ?_ ?_
            rotate_left
            · intro w'
              go_simp
              with_reducible rfl
            rotate_left
            · simp only [Act.put, List.setIfInBounds_toArray, List.set_cons_zero, List.set_cons_succ, i64_w, i32_w]
              rfl
            refine pure_ (i := 10) (N := some 32) (v := ?_) (a' := ?_) #[true, true, true, true, true, true, true, false, true, false, true, false, false, false] rfl rfl (by kernel_rfl) (fun _ _ _ h => h) (Or.inl ⟨by rfl, ?_⟩) ?_ ?_
            rotate_left
            · intro w'
              go_simp
              with_reducible rfl
            rotate_left
            · simp only [Act.put, List.setIfInBounds_toArray, List.set_cons_zero, List.set_cons_succ, i64_w, i32_w]
              rfl
            refine pure_ (i := 11) (N := some 33) (v := ?_) (a' := ?_) #[true, true, true, true, true, true, true, false, true, false, true, true, false, false] rfl rfl (by kernel_rfl) (fun _ _ _ h => h) (Or.inl ⟨by rfl, ?_⟩) ?_ ?_
            rotate_left
            · intro w'
              go_simp
              with_reducible rfl
            rotate_left
            · simp only [Act.put, List.setIfInBounds_toArray, List.set_cons_zero, List.set_cons_succ, i64_w, i32_w]
              rfl
            refine take_ (i := 7) (N := some 29) (v := ?_) (a' := ?_) #[true, true, true, true, true, true, true, true, true, false, true, true, false, false] rfl rfl (by kernel_rfl) (fun _ _ _ h => h) (Or.inl ⟨by rfl, ?_⟩) hHeld ?_ ?_
            rotate_left
            · intro w' s0
              go_simp
              with_reducible rfl
            rotate_left
            · simp only [Act.put, List.setIfInBounds_toArray, List.set_cons_zero, List.set_cons_succ, i64_w, i32_w]
              rfl
            refine one_ (i := 9) (N := some 31) #[true, true, true, true, true, true, true, true, true, true, true, true, false, false] rfl rfl (by kernel_rfl) (by decide) (fun K hK => ?_)
            refine goes_ Try.func46 (by kernel_rfl) rfl #[.int .u16 x, .int .u16 b] (by rfl) rfl rfl (by (try simp only [List.map_toArray, List.map_cons, List.map_nil]); first | done | rfl) ?_
            with_reducible refine (itm_calls HX.out Hb.out _).mono ?_
            rintro e w' ⟨rfl, ⟨nd, rfl⟩⟩
            refine ⟨_, rfl, ?_⟩
            refine hK.out _ _ hHeld (fun hHeld => ?_)
            clear hK K
            refine norm_ (a' := ?_) ?_ ?_
            rotate_left
            · show Act.put _ (some 31) _ = _
              simp only [Act.put, List.setIfInBounds_toArray, List.set_cons_zero, List.set_cons_succ, i64_w, i32_w]
              rfl
            refine pure_ (i := 12) (N := some 34) (v := ?_) (a' := ?_) #[true, true, true, true, true, true, true, true, true, true, true, true, true, false] rfl rfl (by kernel_rfl) (fun _ _ _ h => h) (Or.inl ⟨by rfl, ?_⟩) ?_ ?_
            rotate_left
            · intro w'
              go_simp
              with_reducible rfl
            rotate_left
            · simp only [Act.put, List.setIfInBounds_toArray, List.set_cons_zero, List.set_cons_succ, i64_w, i32_w]
              rfl
            refine last_ (i := 13) (N := none) #[true, true, true, true, true, true, true, true, true, true, true, true, true, true] rfl rfl (by kernel_rfl) (by decide) (fun K hK => ?_)
            refine skip_ (w1 := ?_) (by rfl) rfl ?_ ?_
            rotate_left
            · go_simp
              rfl
            refine hK.out _ _ ?_
            clear hK K
            refine done_ (by kernel_rfl) ?_
            go_wp2
            go_roundg (C - (k + 1))
            case measure => have := hg.out; have := HN.out; omega
            case rel => exact ⟨k + 1, Lib.hid HN.out, Lib.hid (Nat.le_refl _), by first | rfl | go_num, Lib.hid (by have := (BKa.out.drewN nd).set (2 + i * 6 + k) (.int .u16 (tm x b)); rw [show 2 + i * 6 + k = i * 6 + k + 2 by omega, M_set, TS.out] at this; rw [show 2 + i * 6 + k = i * 6 + k + 2 by omega]; exact this), Lib.hid ((BKr.out.drewN nd).far NEra _ _), Lib.hid (below_set (pw_below_drewN HB.out _) GWa.out)⟩
          · have en : k = C := by have := hn.out; omega
            subst en
            have kb0 : decide ((k : Int) < (k : Int)) = false := decide_eq_false (by omega)
            clear hn hg hlt
            go_wp2
            go_roundg (R - (i + 1))
            case measure => have := HGi.out; have := HNi.out; omega
            case rel => exact ⟨i + 1, Lib.hid HNi.out, Lib.hid (Nat.le_refl _), by first | rfl | go_num, Lib.hid (by rw [← scI_row]; exact BKa.out), BKr, HB⟩
      · have en : i = R := by have := hn.out; omega
        subst en
        have hb0 : decide ((i : Int) < (i : Int)) = false := decide_eq_false (by omega)
        have BKa2 : Hid (Blk wr ga 29 (M i C (l.map fun x => tm x b))) := Lib.hid (by have := BKa.out; rw [scI_all l b i C HL.out HO.out] at this; exact this)
        clear hn hg hlt BKa
        have BKa := BKa2
        clear BKa2
        go_wp2_with (first
    | ((with_reducible refine wpList_ldall rfl 29 (.tmp 2) rfl ga ?hx 29 (M i C (l.map fun x => tm x b)) _ ?hB Try.underlying29 rfl ?hi ?_); (case hx => rfl); (case hB => exact (by (with_reducible repeat (first | apply Blk.alloc | apply Blk.drewN | apply Blk.drew)); exact BKa.out)); (case hi => rw [M_length, List.length_map, HL.out]; exact inf29))
    | ((with_reducible refine wpList_stall rfl 29 4 _ rfl rfl gr ?hx (M i C (l.map fun x => tm x b)) ?hy 29 (M 0 0 (List.replicate 36 0)) ?hB ?hi ?hf (M_one _ _ _) ?_); (case hx => rfl); (case hy => rfl); (case hB => exact (by (with_reducible repeat (first | apply Blk.alloc | apply Blk.drewN | apply Blk.drew)); exact BKr.out)); (case hi => rw [M_length, List.length_map, HL.out]; exact inf29); (case hf => rw [M_length, M_length, List.length_map, HL.out]; rfl); intro W_ hbk hfar hbel; have BKa_n := Lib.hid (Blk.other (by (with_reducible repeat (first | apply Blk.alloc | apply Blk.drewN | apply Blk.drew)); exact BKa.out) hfar NEar); have HB_n := Lib.hid (hbel _ _ (by repeat (first | (with_reducible first | exact HB.out | apply below_alloc | apply pw_below_drewN | apply below_drew) | exact HB.out)) GWr.out); have BKr_n := Lib.hid (hbk); clear BKa; have BKa := BKa_n; clear BKa_n; clear HB; have HB := HB_n; clear HB_n; clear BKr; have BKr := BKr_n; clear BKr_n; clear hbk hfar hbel))
        exact bodyPost_ret (results_ct Try.results18 _ _ gr 29 _ (0, 0) _ rfl BKr.out Try.underlying29 rfl (by simp only [List.size_toArray]; rw [M_length, List.length_map, HL.out]; exact inf29)) rfl ⟨rfl, HB.out⟩

end Go.Proofs.Ythjbeglmdifhdaa.Given
