/- Walks of functions that the print does not take. -/
import Derived.Test.YthjbeglmdifhdaaProg
import Derived.Below
import Derived.Deep.Draws
import Derived.Deep.AppendLies
import Derived.Maps.AppendAt
import Derived.OwnWalk
import Derived.Laws.BytesArg
import Derived.Laws.MakeOwn
import Derived.Laws.OwnMore
import Derived.Deep.OwnRows
import Derived.Tactics
import Derived.Lib.ConvBytes
import Derived.Laws.Slices
import Derived.WalkKit
import Derived.KernelRfl
import Derived.RowKit3
import Derived.Deep.LoopGhost
import Derived.Deep.QuietTactic
import Derived.BigQuiet
import Derived.WideLaws
import Derived.Deep.DeepCutAuto
import Derived.Deep.CutBlock
import Derived.Deep.RegionHeld3
import Derived.Laws.Rows
import Derived.Lib.AppendStr
import Derived.ArgAppend
import Derived.Laws.IdiomCopy
import Derived.OrdersHeld
import Derived.Laws.BitsLemmas
import Derived.RowKit
import Derived.Lib.Hide
import Derived.WalkSpells
import Derived.Test.YthjbeglmdifhdaaWWords
import Derived.Test.YthjbeglmdifhdaaWLast
import Derived.Test.YthjbeglmdifhdaaWTab
import Derived.Test.YthjbeglmdifhdaaWFour
import Derived.Test.YthjbeglmdifhdaaWQPut
import Derived.Test.YthjbeglmdifhdaaWApart
import Derived.Test.YthjbeglmdifhdaaWArr
import Derived.Test.YthjbeglmdifhdaaWZeros
import Derived.Test.YthjbeglmdifhdaaWFoot
import Derived.Test.YthjbeglmdifhdaaWKept
import Derived.Test.YthjbeglmdifhdaaWShare
import Derived.Test.YthjbeglmdifhdaaWN
import Derived.Test.YthjbeglmdifhdaaWFootNe
import Derived.Test.YthjbeglmdifhdaaWAt
import Derived.Test.YthjbeglmdifhdaaWEqStruct
import Derived.Test.YthjbeglmdifhdaaWRepsOne
import Derived.Test.YthjbeglmdifhdaaWInv
import Derived.Test.YthjbeglmdifhdaaWInvWords
import Derived.Test.YthjbeglmdifhdaaWGuard
import Derived.Test.YthjbeglmdifhdaaWNEv
import Derived.Test.YthjbeglmdifhdaaWMore
import Derived.Test.YthjbeglmdifhdaaN1
import Derived.Test.YthjbeglmdifhdaaML
import Derived.Test.YthjbeglmdifhdaaWGuard
import Derived.Test.YthjbeglmdifhdaaWLast
namespace Go.Proofs.Ythjbeglmdifhdaa.Given
open Go.RowKit Go.Proofs.YthjbeglmdifhdaaW.PrintWords Go.Proofs.YthjbeglmdifhdaaW.PrintLast Go.Proofs.YthjbeglmdifhdaaW.PrintMore Go.Proofs.Ythjbeglmdifhdaa.NimF Go.Proofs.Ythjbeglmdifhdaa.NimGo
set_option linter.unusedVariables false
set_option linter.unusedSimpArgs false
theorem oneM {r c : Int} {l : List Int} : ∀ q ∈ M r c l, q.oneCell' = true := M_one r c l
def tmR (r c : Int) (l : List Int) (r2 c2 : Int) (m : List Int) : Value := if okM r c l = true ∧ okM r2 c2 m = true then (if c = r2 then .tuple #[.agg (M r c2 (mmS l m c.toNat c2.toNat r.toNat 0)).toArray, .int .i64 0] else .tuple #[.agg (M 0 0 (List.replicate 36 0)).toArray, .int .i64 4]) else .tuple #[.agg (M 0 0 (List.replicate 36 0)).toArray, .int .i64 1]
theorem tmRes (r c : Int) (l : List Int) (r2 c2 : Int) (m : List Int) : ∃ (R C : Int) (L : List Int) (e : Int), L.length = 36 ∧ tmR r c l r2 c2 m = .tuple #[.agg (M R C L).toArray, .int .i64 e] := by
  unfold tmR
  split
  · split
    · exact ⟨_, _, _, _, mmS_length _ _ _ _ _ _, rfl⟩
    · exact ⟨_, _, _, _, List.length_replicate, rfl⟩
  · exact ⟨_, _, _, _, List.length_replicate, rfl⟩

set_option maxHeartbeats 16000000 in
set_option maxRecDepth 100000 in
theorem specTimesM_calls (r c : Int) (l : List Int) (r2 c2 : Int) (m : List Int) (hl : l.length = 36) (hm : m.length = 36) (h1 : -128 ≤ r) (h2 : r ≤ 127) (h3 : -128 ≤ c) (h4 : c ≤ 127) (g1 : -128 ≤ r2) (g2 : r2 ≤ 127) (g3 : -128 ≤ c2) (g4 : c2 ≤ 127) (hw : W16 l) (hx : W16 m) (w : World) :
    Calls Try.prog 25 #[.agg (M r c l).toArray, .agg (M r2 c2 m).toArray] w fun e w' => e = .returned (tmR r c l r2 c2 m) ∧ Below w.heap.size w w' := by
  have HL := Lib.hid hl
  have HM := Lib.hid hm
  have HW := Lib.hid hw
  have HX := Lib.hid hx
  have HOK := Lib.hid (fun g W (hB : Blk W g 29 (M r c l)) => l02Ok_calls r c l hl h1 h2 h3 h4 g W hB _ rfl)
  have HO2 := Lib.hid (fun g W (hB : Blk W g 29 (M r2 c2 m)) => l02Ok_calls r2 c2 m hm g1 g2 g3 g4 g W hB _ rfl)
  clear h1 h2 h3 h4 g1 g2 g3 g4 hw hx
  have HB := Lib.hid (Below.refl w.heap.size w)
  unfold tmR
  obtain ⟨v1, hv1⟩ : ∃ v, okM r c l = v := ⟨_, rfl⟩
  obtain ⟨v2, hv2⟩ : ∃ v, okM r2 c2 m = v := ⟨_, rfl⟩
  rw [hv1] at HOK ⊢
  rw [hv2] at HO2 ⊢
  have tA : True := trivial
  have tB : True := trivial
  cases v1 with
  | false =>
    clear hv1 hv2 hl hm
    rw [if_neg (by simp)]
    go_enter Try.func25, Try.ntmps25
    go_wp2_with (first
    | ((with_reducible refine gate_dst (N := 2) rfl ?_); refine box_event ?hg (N := 2) ?hd (cs := (M r c l).toArray) (t := 29) ?hr ?_; (case hd => rfl); (case hg => rfl); (case hr => first | (go_simp; done) | (go_simp; rfl)); intro ga hg Wa hbox hb; have GWa := Lib.hid ((by rw [hg]; exact below_size (w := w) (by repeat (first | (with_reducible first | exact HB.out | apply below_alloc | apply pw_below_drewN | apply below_drew) | exact HB.out))) : w.heap.size ≤ ga); have HB_n := Lib.hid (below_step (w := w) (by repeat (first | (with_reducible first | exact HB.out | apply below_alloc | apply pw_below_drewN | apply below_drew) | exact HB.out)) hb); clear HB; have HB := HB_n; clear HB_n; have BKa := Lib.hid (show Blk Wa ga 29 (M r c l) from hbox); clear hbox hg hb)
    | ((with_reducible refine gate_dst (N := 3) rfl ?_); refine box_event ?hg (N := 3) ?hd (cs := (M r2 c2 m).toArray) (t := 29) ?hr ?_; (case hd => rfl); (case hg => rfl); (case hr => first | (go_simp; done) | (go_simp; rfl)); intro gb hg Wb hbox hb; have GWb := Lib.hid ((by rw [hg]; exact below_size (w := w) (by repeat (first | (with_reducible first | exact HB.out | apply below_alloc | apply pw_below_drewN | apply below_drew) | exact HB.out))) : w.heap.size ≤ gb); have NEab : ga ≠ gb := (by rw [hg]; exact Nat.ne_of_lt (Blk.lt (by (with_reducible repeat (first | apply Blk.alloc | apply Blk.drewN | apply Blk.drew)); exact BKa.out))); have NEba : gb ≠ ga := NEab.symm; have BKa_n := Lib.hid (Blk.below (by (with_reducible repeat (first | apply Blk.alloc | apply Blk.drewN | apply Blk.drew)); exact BKa.out) hb); have HB_n := Lib.hid (below_step (w := w) (by repeat (first | (with_reducible first | exact HB.out | apply below_alloc | apply pw_below_drewN | apply below_drew) | exact HB.out)) hb); clear BKa; have BKa := BKa_n; clear BKa_n; clear HB; have HB := HB_n; clear HB_n; have BKb := Lib.hid (show Blk Wb gb 29 (M r2 c2 m) from hbox); clear hbox hg hb)
    | ((with_reducible refine gate_dst (N := 4) rfl ?_); refine box_event ?hg (N := 4) ?hd (cs := (M 0 0 (List.replicate 36 0)).toArray) (t := 29) ?hr ?_; (case hd => rfl); (case hg => rfl); (case hr => first | (go_simp; done) | (go_simp; rfl)); intro gr hg Wr hbox hb; have GWr := Lib.hid ((by rw [hg]; exact below_size (w := w) (by repeat (first | (with_reducible first | exact HB.out | apply below_alloc | apply pw_below_drewN | apply below_drew) | exact HB.out))) : w.heap.size ≤ gr); have NEar : ga ≠ gr := (by rw [hg]; exact Nat.ne_of_lt (Blk.lt (by (with_reducible repeat (first | apply Blk.alloc | apply Blk.drewN | apply Blk.drew)); exact BKa.out))); have NEra : gr ≠ ga := NEar.symm; have NEbr : gb ≠ gr := (by rw [hg]; exact Nat.ne_of_lt (Blk.lt (by (with_reducible repeat (first | apply Blk.alloc | apply Blk.drewN | apply Blk.drew)); exact BKb.out))); have NErb : gr ≠ gb := NEbr.symm; have BKa_n := Lib.hid (Blk.below (by (with_reducible repeat (first | apply Blk.alloc | apply Blk.drewN | apply Blk.drew)); exact BKa.out) hb); have BKb_n := Lib.hid (Blk.below (by (with_reducible repeat (first | apply Blk.alloc | apply Blk.drewN | apply Blk.drew)); exact BKb.out) hb); have HB_n := Lib.hid (below_step (w := w) (by repeat (first | (with_reducible first | exact HB.out | apply below_alloc | apply pw_below_drewN | apply below_drew) | exact HB.out)) hb); clear BKa; have BKa := BKa_n; clear BKa_n; clear BKb; have BKb := BKb_n; clear BKb_n; clear HB; have HB := HB_n; clear HB_n; have BKr := Lib.hid (show Blk Wr gr 29 (M 0 0 (List.replicate 36 0)) from hbox); clear hbox hg hb)
    | (go_at_call 43; have _t := tA; (with_reducible refine (HOK.out _ _ ?hB).mono ?_); (case hB => exact (by (with_reducible repeat (first | apply Blk.alloc | apply Blk.drewN | apply Blk.drew)); exact BKa.out)); rintro e W_ ⟨rfl, hb⟩; have BKa_n := Lib.hid (Blk.below (by (with_reducible repeat (first | apply Blk.alloc | apply Blk.drewN | apply Blk.drew)); exact BKa.out) hb); have BKb_n := Lib.hid (Blk.below (by (with_reducible repeat (first | apply Blk.alloc | apply Blk.drewN | apply Blk.drew)); exact BKb.out) hb); have BKr_n := Lib.hid (Blk.below (by (with_reducible repeat (first | apply Blk.alloc | apply Blk.drewN | apply Blk.drew)); exact BKr.out) hb); have HB_n := Lib.hid (below_step (w := w) (by repeat (first | (with_reducible first | exact HB.out | apply below_alloc | apply pw_below_drewN | apply below_drew) | exact HB.out)) hb); clear BKa; have BKa := BKa_n; clear BKa_n; clear BKb; have BKb := BKb_n; clear BKb_n; clear BKr; have BKr := BKr_n; clear BKr_n; clear HB; have HB := HB_n; clear HB_n; clear hb; clear _t tA)
    | ((with_reducible refine wpList_stall rfl 29 4 _ rfl rfl gr ?hx (M 0 0 (List.replicate 36 0)) ?hy 29 (M 0 0 (List.replicate 36 0)) ?hB ?hi ?hf (M_one _ _ _) ?_); (case hx => rfl); (case hy => rfl); (case hB => exact (by (with_reducible repeat (first | apply Blk.alloc | apply Blk.drewN | apply Blk.drew)); exact BKr.out)); (case hi => rw [M_length, List.length_replicate]; exact inf29); (case hf => rfl); intro W_ hbk hfar hbel; have BKa_n := Lib.hid (Blk.other (by (with_reducible repeat (first | apply Blk.alloc | apply Blk.drewN | apply Blk.drew)); exact BKa.out) hfar NEar); have BKb_n := Lib.hid (Blk.other (by (with_reducible repeat (first | apply Blk.alloc | apply Blk.drewN | apply Blk.drew)); exact BKb.out) hfar NEbr); have HB_n := Lib.hid (hbel _ _ (by repeat (first | (with_reducible first | exact HB.out | apply below_alloc | apply pw_below_drewN | apply below_drew) | exact HB.out)) GWr.out); have BKr_n := Lib.hid (hbk); clear BKa; have BKa := BKa_n; clear BKa_n; clear BKb; have BKb := BKb_n; clear BKb_n; clear HB; have HB := HB_n; clear HB_n; clear BKr; have BKr := BKr_n; clear BKr_n; clear hbk hfar hbel))
    exact bodyPost_ret (results_ct Try.results25 _ _ gr 29 _ (0, 0) _ rfl BKr.out Try.underlying29 rfl inf29) rfl ⟨rfl, HB.out⟩
  | true =>
  cases v2 with
  | false =>
    clear hv1 hv2 hl hm
    rw [if_neg (by simp)]
    go_enter Try.func25, Try.ntmps25
    go_wp2_with (first
    | ((with_reducible refine gate_dst (N := 2) rfl ?_); refine box_event ?hg (N := 2) ?hd (cs := (M r c l).toArray) (t := 29) ?hr ?_; (case hd => rfl); (case hg => rfl); (case hr => first | (go_simp; done) | (go_simp; rfl)); intro ga hg Wa hbox hb; have GWa := Lib.hid ((by rw [hg]; exact below_size (w := w) (by repeat (first | (with_reducible first | exact HB.out | apply below_alloc | apply pw_below_drewN | apply below_drew) | exact HB.out))) : w.heap.size ≤ ga); have HB_n := Lib.hid (below_step (w := w) (by repeat (first | (with_reducible first | exact HB.out | apply below_alloc | apply pw_below_drewN | apply below_drew) | exact HB.out)) hb); clear HB; have HB := HB_n; clear HB_n; have BKa := Lib.hid (show Blk Wa ga 29 (M r c l) from hbox); clear hbox hg hb)
    | ((with_reducible refine gate_dst (N := 3) rfl ?_); refine box_event ?hg (N := 3) ?hd (cs := (M r2 c2 m).toArray) (t := 29) ?hr ?_; (case hd => rfl); (case hg => rfl); (case hr => first | (go_simp; done) | (go_simp; rfl)); intro gb hg Wb hbox hb; have GWb := Lib.hid ((by rw [hg]; exact below_size (w := w) (by repeat (first | (with_reducible first | exact HB.out | apply below_alloc | apply pw_below_drewN | apply below_drew) | exact HB.out))) : w.heap.size ≤ gb); have NEab : ga ≠ gb := (by rw [hg]; exact Nat.ne_of_lt (Blk.lt (by (with_reducible repeat (first | apply Blk.alloc | apply Blk.drewN | apply Blk.drew)); exact BKa.out))); have NEba : gb ≠ ga := NEab.symm; have BKa_n := Lib.hid (Blk.below (by (with_reducible repeat (first | apply Blk.alloc | apply Blk.drewN | apply Blk.drew)); exact BKa.out) hb); have HB_n := Lib.hid (below_step (w := w) (by repeat (first | (with_reducible first | exact HB.out | apply below_alloc | apply pw_below_drewN | apply below_drew) | exact HB.out)) hb); clear BKa; have BKa := BKa_n; clear BKa_n; clear HB; have HB := HB_n; clear HB_n; have BKb := Lib.hid (show Blk Wb gb 29 (M r2 c2 m) from hbox); clear hbox hg hb)
    | ((with_reducible refine gate_dst (N := 4) rfl ?_); refine box_event ?hg (N := 4) ?hd (cs := (M 0 0 (List.replicate 36 0)).toArray) (t := 29) ?hr ?_; (case hd => rfl); (case hg => rfl); (case hr => first | (go_simp; done) | (go_simp; rfl)); intro gr hg Wr hbox hb; have GWr := Lib.hid ((by rw [hg]; exact below_size (w := w) (by repeat (first | (with_reducible first | exact HB.out | apply below_alloc | apply pw_below_drewN | apply below_drew) | exact HB.out))) : w.heap.size ≤ gr); have NEar : ga ≠ gr := (by rw [hg]; exact Nat.ne_of_lt (Blk.lt (by (with_reducible repeat (first | apply Blk.alloc | apply Blk.drewN | apply Blk.drew)); exact BKa.out))); have NEra : gr ≠ ga := NEar.symm; have NEbr : gb ≠ gr := (by rw [hg]; exact Nat.ne_of_lt (Blk.lt (by (with_reducible repeat (first | apply Blk.alloc | apply Blk.drewN | apply Blk.drew)); exact BKb.out))); have NErb : gr ≠ gb := NEbr.symm; have BKa_n := Lib.hid (Blk.below (by (with_reducible repeat (first | apply Blk.alloc | apply Blk.drewN | apply Blk.drew)); exact BKa.out) hb); have BKb_n := Lib.hid (Blk.below (by (with_reducible repeat (first | apply Blk.alloc | apply Blk.drewN | apply Blk.drew)); exact BKb.out) hb); have HB_n := Lib.hid (below_step (w := w) (by repeat (first | (with_reducible first | exact HB.out | apply below_alloc | apply pw_below_drewN | apply below_drew) | exact HB.out)) hb); clear BKa; have BKa := BKa_n; clear BKa_n; clear BKb; have BKb := BKb_n; clear BKb_n; clear HB; have HB := HB_n; clear HB_n; have BKr := Lib.hid (show Blk Wr gr 29 (M 0 0 (List.replicate 36 0)) from hbox); clear hbox hg hb)
    | (go_at_call 43; have _t := tA; (with_reducible refine (HOK.out _ _ ?hB).mono ?_); (case hB => exact (by (with_reducible repeat (first | apply Blk.alloc | apply Blk.drewN | apply Blk.drew)); exact BKa.out)); rintro e W_ ⟨rfl, hb⟩; have BKa_n := Lib.hid (Blk.below (by (with_reducible repeat (first | apply Blk.alloc | apply Blk.drewN | apply Blk.drew)); exact BKa.out) hb); have BKb_n := Lib.hid (Blk.below (by (with_reducible repeat (first | apply Blk.alloc | apply Blk.drewN | apply Blk.drew)); exact BKb.out) hb); have BKr_n := Lib.hid (Blk.below (by (with_reducible repeat (first | apply Blk.alloc | apply Blk.drewN | apply Blk.drew)); exact BKr.out) hb); have HB_n := Lib.hid (below_step (w := w) (by repeat (first | (with_reducible first | exact HB.out | apply below_alloc | apply pw_below_drewN | apply below_drew) | exact HB.out)) hb); clear BKa; have BKa := BKa_n; clear BKa_n; clear BKb; have BKb := BKb_n; clear BKb_n; clear BKr; have BKr := BKr_n; clear BKr_n; clear HB; have HB := HB_n; clear HB_n; clear hb; clear _t tA)
    | (go_at_call 43; have _t := tB; (with_reducible refine (HO2.out _ _ ?hB).mono ?_); (case hB => exact (by (with_reducible repeat (first | apply Blk.alloc | apply Blk.drewN | apply Blk.drew)); exact BKb.out)); rintro e W_ ⟨rfl, hb⟩; have BKa_n := Lib.hid (Blk.below (by (with_reducible repeat (first | apply Blk.alloc | apply Blk.drewN | apply Blk.drew)); exact BKa.out) hb); have BKb_n := Lib.hid (Blk.below (by (with_reducible repeat (first | apply Blk.alloc | apply Blk.drewN | apply Blk.drew)); exact BKb.out) hb); have BKr_n := Lib.hid (Blk.below (by (with_reducible repeat (first | apply Blk.alloc | apply Blk.drewN | apply Blk.drew)); exact BKr.out) hb); have HB_n := Lib.hid (below_step (w := w) (by repeat (first | (with_reducible first | exact HB.out | apply below_alloc | apply pw_below_drewN | apply below_drew) | exact HB.out)) hb); clear BKa; have BKa := BKa_n; clear BKa_n; clear BKb; have BKb := BKb_n; clear BKb_n; clear BKr; have BKr := BKr_n; clear BKr_n; clear HB; have HB := HB_n; clear HB_n; clear hb; clear _t tB)
    | ((with_reducible refine wpList_stall rfl 29 4 _ rfl rfl gr ?hx (M 0 0 (List.replicate 36 0)) ?hy 29 (M 0 0 (List.replicate 36 0)) ?hB ?hi ?hf (M_one _ _ _) ?_); (case hx => rfl); (case hy => rfl); (case hB => exact (by (with_reducible repeat (first | apply Blk.alloc | apply Blk.drewN | apply Blk.drew)); exact BKr.out)); (case hi => rw [M_length, List.length_replicate]; exact inf29); (case hf => rfl); intro W_ hbk hfar hbel; have BKa_n := Lib.hid (Blk.other (by (with_reducible repeat (first | apply Blk.alloc | apply Blk.drewN | apply Blk.drew)); exact BKa.out) hfar NEar); have BKb_n := Lib.hid (Blk.other (by (with_reducible repeat (first | apply Blk.alloc | apply Blk.drewN | apply Blk.drew)); exact BKb.out) hfar NEbr); have HB_n := Lib.hid (hbel _ _ (by repeat (first | (with_reducible first | exact HB.out | apply below_alloc | apply pw_below_drewN | apply below_drew) | exact HB.out)) GWr.out); have BKr_n := Lib.hid (hbk); clear BKa; have BKa := BKa_n; clear BKa_n; clear BKb; have BKb := BKb_n; clear BKb_n; clear HB; have HB := HB_n; clear HB_n; clear BKr; have BKr := BKr_n; clear BKr_n; clear hbk hfar hbel))
    exact bodyPost_ret (results_ct Try.results25 _ _ gr 29 _ (0, 0) _ rfl BKr.out Try.underlying29 rfl inf29) rfl ⟨rfl, HB.out⟩
  | true =>
    obtain ⟨a1, a2, a3, a4⟩ := okM_size hv1
    obtain ⟨b1, b2, b3, b4⟩ := okM_size hv2
    clear hv1 hv2
    rw [if_pos ⟨rfl, rfl⟩]
    obtain ⟨R, rfl⟩ := Int.eq_ofNat_of_zero_le a1
    obtain ⟨K, rfl⟩ := Int.eq_ofNat_of_zero_le a3
    obtain ⟨K2, rfl⟩ := Int.eq_ofNat_of_zero_le b1
    obtain ⟨C, rfl⟩ := Int.eq_ofNat_of_zero_le b3
    rw [Int.toNat_natCast, Int.toNat_natCast, Int.toNat_natCast]
    have hR : R ≤ 6 := by omega
    have hK : K ≤ 6 := by omega
    have hC : C ≤ 6 := by omega
    by_cases hq : K = K2
    · subst hq
      rw [if_pos rfl]
      have HAP := Lib.hid (fun g g2 W (hA : Blk W g 29 (M R K l)) (hB : Blk W g2 29 (M K C m)) => l02Times_calls R K C l m hl hm hR hK hC HW.out HX.out g g2 W hA hB)
      clear hR hK hC hl hm
      go_enter Try.func25, Try.ntmps25
      go_wp2_with (first
    | ((with_reducible refine gate_dst (N := 2) rfl ?_); refine box_event ?hg (N := 2) ?hd (cs := (M R K l).toArray) (t := 29) ?hr ?_; (case hd => rfl); (case hg => rfl); (case hr => first | (go_simp; done) | (go_simp; rfl)); intro ga hg Wa hbox hb; have GWa := Lib.hid ((by rw [hg]; exact below_size (w := w) (by repeat (first | (with_reducible first | exact HB.out | apply below_alloc | apply pw_below_drewN | apply below_drew) | exact HB.out))) : w.heap.size ≤ ga); have HB_n := Lib.hid (below_step (w := w) (by repeat (first | (with_reducible first | exact HB.out | apply below_alloc | apply pw_below_drewN | apply below_drew) | exact HB.out)) hb); clear HB; have HB := HB_n; clear HB_n; have BKa := Lib.hid (show Blk Wa ga 29 (M R K l) from hbox); clear hbox hg hb)
    | ((with_reducible refine gate_dst (N := 3) rfl ?_); refine box_event ?hg (N := 3) ?hd (cs := (M K C m).toArray) (t := 29) ?hr ?_; (case hd => rfl); (case hg => rfl); (case hr => first | (go_simp; done) | (go_simp; rfl)); intro gb hg Wb hbox hb; have GWb := Lib.hid ((by rw [hg]; exact below_size (w := w) (by repeat (first | (with_reducible first | exact HB.out | apply below_alloc | apply pw_below_drewN | apply below_drew) | exact HB.out))) : w.heap.size ≤ gb); have NEab : ga ≠ gb := (by rw [hg]; exact Nat.ne_of_lt (Blk.lt (by (with_reducible repeat (first | apply Blk.alloc | apply Blk.drewN | apply Blk.drew)); exact BKa.out))); have NEba : gb ≠ ga := NEab.symm; have BKa_n := Lib.hid (Blk.below (by (with_reducible repeat (first | apply Blk.alloc | apply Blk.drewN | apply Blk.drew)); exact BKa.out) hb); have HB_n := Lib.hid (below_step (w := w) (by repeat (first | (with_reducible first | exact HB.out | apply below_alloc | apply pw_below_drewN | apply below_drew) | exact HB.out)) hb); clear BKa; have BKa := BKa_n; clear BKa_n; clear HB; have HB := HB_n; clear HB_n; have BKb := Lib.hid (show Blk Wb gb 29 (M K C m) from hbox); clear hbox hg hb)
    | ((with_reducible refine gate_dst (N := 4) rfl ?_); refine box_event ?hg (N := 4) ?hd (cs := (M 0 0 (List.replicate 36 0)).toArray) (t := 29) ?hr ?_; (case hd => rfl); (case hg => rfl); (case hr => first | (go_simp; done) | (go_simp; rfl)); intro gr hg Wr hbox hb; have GWr := Lib.hid ((by rw [hg]; exact below_size (w := w) (by repeat (first | (with_reducible first | exact HB.out | apply below_alloc | apply pw_below_drewN | apply below_drew) | exact HB.out))) : w.heap.size ≤ gr); have NEar : ga ≠ gr := (by rw [hg]; exact Nat.ne_of_lt (Blk.lt (by (with_reducible repeat (first | apply Blk.alloc | apply Blk.drewN | apply Blk.drew)); exact BKa.out))); have NEra : gr ≠ ga := NEar.symm; have NEbr : gb ≠ gr := (by rw [hg]; exact Nat.ne_of_lt (Blk.lt (by (with_reducible repeat (first | apply Blk.alloc | apply Blk.drewN | apply Blk.drew)); exact BKb.out))); have NErb : gr ≠ gb := NEbr.symm; have BKa_n := Lib.hid (Blk.below (by (with_reducible repeat (first | apply Blk.alloc | apply Blk.drewN | apply Blk.drew)); exact BKa.out) hb); have BKb_n := Lib.hid (Blk.below (by (with_reducible repeat (first | apply Blk.alloc | apply Blk.drewN | apply Blk.drew)); exact BKb.out) hb); have HB_n := Lib.hid (below_step (w := w) (by repeat (first | (with_reducible first | exact HB.out | apply below_alloc | apply pw_below_drewN | apply below_drew) | exact HB.out)) hb); clear BKa; have BKa := BKa_n; clear BKa_n; clear BKb; have BKb := BKb_n; clear BKb_n; clear HB; have HB := HB_n; clear HB_n; have BKr := Lib.hid (show Blk Wr gr 29 (M 0 0 (List.replicate 36 0)) from hbox); clear hbox hg hb)
    | (go_at_call 43; have _t := tA; (with_reducible refine (HOK.out _ _ ?hB).mono ?_); (case hB => exact (by (with_reducible repeat (first | apply Blk.alloc | apply Blk.drewN | apply Blk.drew)); exact BKa.out)); rintro e W_ ⟨rfl, hb⟩; have BKa_n := Lib.hid (Blk.below (by (with_reducible repeat (first | apply Blk.alloc | apply Blk.drewN | apply Blk.drew)); exact BKa.out) hb); have BKb_n := Lib.hid (Blk.below (by (with_reducible repeat (first | apply Blk.alloc | apply Blk.drewN | apply Blk.drew)); exact BKb.out) hb); have BKr_n := Lib.hid (Blk.below (by (with_reducible repeat (first | apply Blk.alloc | apply Blk.drewN | apply Blk.drew)); exact BKr.out) hb); have HB_n := Lib.hid (below_step (w := w) (by repeat (first | (with_reducible first | exact HB.out | apply below_alloc | apply pw_below_drewN | apply below_drew) | exact HB.out)) hb); clear BKa; have BKa := BKa_n; clear BKa_n; clear BKb; have BKb := BKb_n; clear BKb_n; clear BKr; have BKr := BKr_n; clear BKr_n; clear HB; have HB := HB_n; clear HB_n; clear hb; clear _t tA)
    | (go_at_call 43; have _t := tB; (with_reducible refine (HO2.out _ _ ?hB).mono ?_); (case hB => exact (by (with_reducible repeat (first | apply Blk.alloc | apply Blk.drewN | apply Blk.drew)); exact BKb.out)); rintro e W_ ⟨rfl, hb⟩; have BKa_n := Lib.hid (Blk.below (by (with_reducible repeat (first | apply Blk.alloc | apply Blk.drewN | apply Blk.drew)); exact BKa.out) hb); have BKb_n := Lib.hid (Blk.below (by (with_reducible repeat (first | apply Blk.alloc | apply Blk.drewN | apply Blk.drew)); exact BKb.out) hb); have BKr_n := Lib.hid (Blk.below (by (with_reducible repeat (first | apply Blk.alloc | apply Blk.drewN | apply Blk.drew)); exact BKr.out) hb); have HB_n := Lib.hid (below_step (w := w) (by repeat (first | (with_reducible first | exact HB.out | apply below_alloc | apply pw_below_drewN | apply below_drew) | exact HB.out)) hb); clear BKa; have BKa := BKa_n; clear BKa_n; clear BKb; have BKb := BKb_n; clear BKb_n; clear BKr; have BKr := BKr_n; clear BKr_n; clear HB; have HB := HB_n; clear HB_n; clear hb; clear _t tB; have hk1 : W_.cell? ⟨ga, 1, none⟩ = some (.int .i8 (K : Int)) := BKa.out.cell 1; have hk2 : W_.cell? ⟨gb, 0, none⟩ = some (.int .i8 (K : Int)) := BKb.out.cell 0)
    | (go_at_call 51; (with_reducible refine (HAP.out _ _ _ ?hA ?hB).mono ?_); (case hA => exact (by (with_reducible repeat (first | apply Blk.alloc | apply Blk.drewN | apply Blk.drew)); exact BKa.out)); (case hB => exact (by (with_reducible repeat (first | apply Blk.alloc | apply Blk.drewN | apply Blk.drew)); exact BKb.out)); rintro e W_ ⟨rfl, hb⟩; have BKa_n := Lib.hid (Blk.below (by (with_reducible repeat (first | apply Blk.alloc | apply Blk.drewN | apply Blk.drew)); exact BKa.out) hb); have BKb_n := Lib.hid (Blk.below (by (with_reducible repeat (first | apply Blk.alloc | apply Blk.drewN | apply Blk.drew)); exact BKb.out) hb); have BKr_n := Lib.hid (Blk.below (by (with_reducible repeat (first | apply Blk.alloc | apply Blk.drewN | apply Blk.drew)); exact BKr.out) hb); have HB_n := Lib.hid (below_step (w := w) (by repeat (first | (with_reducible first | exact HB.out | apply below_alloc | apply pw_below_drewN | apply below_drew) | exact HB.out)) hb); clear BKa; have BKa := BKa_n; clear BKa_n; clear BKb; have BKb := BKb_n; clear BKb_n; clear BKr; have BKr := BKr_n; clear BKr_n; clear HB; have HB := HB_n; clear HB_n; clear hb)
    | ((with_reducible refine wpList_stall rfl 29 4 _ rfl rfl gr ?hx (M R C (mmS l m K C R 0)) ?hy 29 (M 0 0 (List.replicate 36 0)) ?hB ?hi ?hf (M_one _ _ _) ?_); (case hx => rfl); (case hy => rfl); (case hB => exact (by (with_reducible repeat (first | apply Blk.alloc | apply Blk.drewN | apply Blk.drew)); exact BKr.out)); (case hi => rw [M_length, mmS_length]; exact inf29); (case hf => rw [M_length, mmS_length]; rfl); intro W_ hbk hfar hbel; have BKa_n := Lib.hid (Blk.other (by (with_reducible repeat (first | apply Blk.alloc | apply Blk.drewN | apply Blk.drew)); exact BKa.out) hfar NEar); have BKb_n := Lib.hid (Blk.other (by (with_reducible repeat (first | apply Blk.alloc | apply Blk.drewN | apply Blk.drew)); exact BKb.out) hfar NEbr); have HB_n := Lib.hid (hbel _ _ (by repeat (first | (with_reducible first | exact HB.out | apply below_alloc | apply pw_below_drewN | apply below_drew) | exact HB.out)) GWr.out); have BKr_n := Lib.hid (hbk); clear BKa; have BKa := BKa_n; clear BKa_n; clear BKb; have BKb := BKb_n; clear BKb_n; clear HB; have HB := HB_n; clear HB_n; clear BKr; have BKr := BKr_n; clear BKr_n; clear hbk hfar hbel))
      exact bodyPost_ret (results_ct Try.results25 _ _ gr 29 _ (0, 0) _ rfl BKr.out Try.underlying29 rfl (by simp only [List.size_toArray]; rw [M_length, mmS_length]; exact inf29)) rfl ⟨rfl, HB.out⟩
    · have hq1 : ((K : Int) == (K2 : Int)) = false := beq_eq_false_iff_ne.mpr (by omega)
      have hq2 : ((K : Int) != (K2 : Int)) = true := by rw [bne, hq1]; rfl
      have hq3 : ¬ ((K : Int) = (K2 : Int)) := by omega
      rw [if_neg hq3]
      clear hR hK hC hl hm hq
      go_enter Try.func25, Try.ntmps25
      go_wp2_with (first
    | ((with_reducible refine gate_dst (N := 2) rfl ?_); refine box_event ?hg (N := 2) ?hd (cs := (M R K l).toArray) (t := 29) ?hr ?_; (case hd => rfl); (case hg => rfl); (case hr => first | (go_simp; done) | (go_simp; rfl)); intro ga hg Wa hbox hb; have GWa := Lib.hid ((by rw [hg]; exact below_size (w := w) (by repeat (first | (with_reducible first | exact HB.out | apply below_alloc | apply pw_below_drewN | apply below_drew) | exact HB.out))) : w.heap.size ≤ ga); have HB_n := Lib.hid (below_step (w := w) (by repeat (first | (with_reducible first | exact HB.out | apply below_alloc | apply pw_below_drewN | apply below_drew) | exact HB.out)) hb); clear HB; have HB := HB_n; clear HB_n; have BKa := Lib.hid (show Blk Wa ga 29 (M R K l) from hbox); clear hbox hg hb)
    | ((with_reducible refine gate_dst (N := 3) rfl ?_); refine box_event ?hg (N := 3) ?hd (cs := (M K2 C m).toArray) (t := 29) ?hr ?_; (case hd => rfl); (case hg => rfl); (case hr => first | (go_simp; done) | (go_simp; rfl)); intro gb hg Wb hbox hb; have GWb := Lib.hid ((by rw [hg]; exact below_size (w := w) (by repeat (first | (with_reducible first | exact HB.out | apply below_alloc | apply pw_below_drewN | apply below_drew) | exact HB.out))) : w.heap.size ≤ gb); have NEab : ga ≠ gb := (by rw [hg]; exact Nat.ne_of_lt (Blk.lt (by (with_reducible repeat (first | apply Blk.alloc | apply Blk.drewN | apply Blk.drew)); exact BKa.out))); have NEba : gb ≠ ga := NEab.symm; have BKa_n := Lib.hid (Blk.below (by (with_reducible repeat (first | apply Blk.alloc | apply Blk.drewN | apply Blk.drew)); exact BKa.out) hb); have HB_n := Lib.hid (below_step (w := w) (by repeat (first | (with_reducible first | exact HB.out | apply below_alloc | apply pw_below_drewN | apply below_drew) | exact HB.out)) hb); clear BKa; have BKa := BKa_n; clear BKa_n; clear HB; have HB := HB_n; clear HB_n; have BKb := Lib.hid (show Blk Wb gb 29 (M K2 C m) from hbox); clear hbox hg hb)
    | ((with_reducible refine gate_dst (N := 4) rfl ?_); refine box_event ?hg (N := 4) ?hd (cs := (M 0 0 (List.replicate 36 0)).toArray) (t := 29) ?hr ?_; (case hd => rfl); (case hg => rfl); (case hr => first | (go_simp; done) | (go_simp; rfl)); intro gr hg Wr hbox hb; have GWr := Lib.hid ((by rw [hg]; exact below_size (w := w) (by repeat (first | (with_reducible first | exact HB.out | apply below_alloc | apply pw_below_drewN | apply below_drew) | exact HB.out))) : w.heap.size ≤ gr); have NEar : ga ≠ gr := (by rw [hg]; exact Nat.ne_of_lt (Blk.lt (by (with_reducible repeat (first | apply Blk.alloc | apply Blk.drewN | apply Blk.drew)); exact BKa.out))); have NEra : gr ≠ ga := NEar.symm; have NEbr : gb ≠ gr := (by rw [hg]; exact Nat.ne_of_lt (Blk.lt (by (with_reducible repeat (first | apply Blk.alloc | apply Blk.drewN | apply Blk.drew)); exact BKb.out))); have NErb : gr ≠ gb := NEbr.symm; have BKa_n := Lib.hid (Blk.below (by (with_reducible repeat (first | apply Blk.alloc | apply Blk.drewN | apply Blk.drew)); exact BKa.out) hb); have BKb_n := Lib.hid (Blk.below (by (with_reducible repeat (first | apply Blk.alloc | apply Blk.drewN | apply Blk.drew)); exact BKb.out) hb); have HB_n := Lib.hid (below_step (w := w) (by repeat (first | (with_reducible first | exact HB.out | apply below_alloc | apply pw_below_drewN | apply below_drew) | exact HB.out)) hb); clear BKa; have BKa := BKa_n; clear BKa_n; clear BKb; have BKb := BKb_n; clear BKb_n; clear HB; have HB := HB_n; clear HB_n; have BKr := Lib.hid (show Blk Wr gr 29 (M 0 0 (List.replicate 36 0)) from hbox); clear hbox hg hb)
    | (go_at_call 43; have _t := tA; (with_reducible refine (HOK.out _ _ ?hB).mono ?_); (case hB => exact (by (with_reducible repeat (first | apply Blk.alloc | apply Blk.drewN | apply Blk.drew)); exact BKa.out)); rintro e W_ ⟨rfl, hb⟩; have BKa_n := Lib.hid (Blk.below (by (with_reducible repeat (first | apply Blk.alloc | apply Blk.drewN | apply Blk.drew)); exact BKa.out) hb); have BKb_n := Lib.hid (Blk.below (by (with_reducible repeat (first | apply Blk.alloc | apply Blk.drewN | apply Blk.drew)); exact BKb.out) hb); have BKr_n := Lib.hid (Blk.below (by (with_reducible repeat (first | apply Blk.alloc | apply Blk.drewN | apply Blk.drew)); exact BKr.out) hb); have HB_n := Lib.hid (below_step (w := w) (by repeat (first | (with_reducible first | exact HB.out | apply below_alloc | apply pw_below_drewN | apply below_drew) | exact HB.out)) hb); clear BKa; have BKa := BKa_n; clear BKa_n; clear BKb; have BKb := BKb_n; clear BKb_n; clear BKr; have BKr := BKr_n; clear BKr_n; clear HB; have HB := HB_n; clear HB_n; clear hb; clear _t tA)
    | (go_at_call 43; have _t := tB; (with_reducible refine (HO2.out _ _ ?hB).mono ?_); (case hB => exact (by (with_reducible repeat (first | apply Blk.alloc | apply Blk.drewN | apply Blk.drew)); exact BKb.out)); rintro e W_ ⟨rfl, hb⟩; have BKa_n := Lib.hid (Blk.below (by (with_reducible repeat (first | apply Blk.alloc | apply Blk.drewN | apply Blk.drew)); exact BKa.out) hb); have BKb_n := Lib.hid (Blk.below (by (with_reducible repeat (first | apply Blk.alloc | apply Blk.drewN | apply Blk.drew)); exact BKb.out) hb); have BKr_n := Lib.hid (Blk.below (by (with_reducible repeat (first | apply Blk.alloc | apply Blk.drewN | apply Blk.drew)); exact BKr.out) hb); have HB_n := Lib.hid (below_step (w := w) (by repeat (first | (with_reducible first | exact HB.out | apply below_alloc | apply pw_below_drewN | apply below_drew) | exact HB.out)) hb); clear BKa; have BKa := BKa_n; clear BKa_n; clear BKb; have BKb := BKb_n; clear BKb_n; clear BKr; have BKr := BKr_n; clear BKr_n; clear HB; have HB := HB_n; clear HB_n; clear hb; clear _t tB; have hk1 : W_.cell? ⟨ga, 1, none⟩ = some (.int .i8 (K : Int)) := BKa.out.cell 1; have hk2 : W_.cell? ⟨gb, 0, none⟩ = some (.int .i8 (K2 : Int)) := BKb.out.cell 0)
    | ((with_reducible refine wpList_stall rfl 29 4 _ rfl rfl gr ?hx (M 0 0 (List.replicate 36 0)) ?hy 29 (M 0 0 (List.replicate 36 0)) ?hB ?hi ?hf (M_one _ _ _) ?_); (case hx => rfl); (case hy => rfl); (case hB => exact (by (with_reducible repeat (first | apply Blk.alloc | apply Blk.drewN | apply Blk.drew)); exact BKr.out)); (case hi => rw [M_length, List.length_replicate]; exact inf29); (case hf => rfl); intro W_ hbk hfar hbel; have BKa_n := Lib.hid (Blk.other (by (with_reducible repeat (first | apply Blk.alloc | apply Blk.drewN | apply Blk.drew)); exact BKa.out) hfar NEar); have BKb_n := Lib.hid (Blk.other (by (with_reducible repeat (first | apply Blk.alloc | apply Blk.drewN | apply Blk.drew)); exact BKb.out) hfar NEbr); have HB_n := Lib.hid (hbel _ _ (by repeat (first | (with_reducible first | exact HB.out | apply below_alloc | apply pw_below_drewN | apply below_drew) | exact HB.out)) GWr.out); have BKr_n := Lib.hid (hbk); clear BKa; have BKa := BKa_n; clear BKa_n; clear BKb; have BKb := BKb_n; clear BKb_n; clear HB; have HB := HB_n; clear HB_n; clear BKr; have BKr := BKr_n; clear BKr_n; clear hbk hfar hbel))
      exact bodyPost_ret (results_ct Try.results25 _ _ gr 29 _ (0, 0) _ rfl BKr.out Try.underlying29 rfl inf29) rfl ⟨rfl, HB.out⟩

set_option maxHeartbeats 16000000 in
set_option maxRecDepth 100000 in
theorem implTimesM_calls (r c : Int) (l : List Int) (r2 c2 : Int) (m : List Int) (hl : l.length = 36) (hm : m.length = 36) (h1 : -128 ≤ r) (h2 : r ≤ 127) (h3 : -128 ≤ c) (h4 : c ≤ 127) (g1 : -128 ≤ r2) (g2 : r2 ≤ 127) (g3 : -128 ≤ c2) (g4 : c2 ≤ 127) (hw : W16 l) (hx : W16 m) (w : World) :
    Calls Try.prog 26 #[.agg (M r c l).toArray, .agg (M r2 c2 m).toArray] w fun e w' => e = .returned (tmR r c l r2 c2 m) ∧ Below w.heap.size w w' := by
  have HL := Lib.hid hl
  have HM := Lib.hid hm
  have HW := Lib.hid hw
  have HX := Lib.hid hx
  have HOK := Lib.hid (fun W => validM_calls r c l hl h1 h2 h3 h4 W _ rfl)
  have HO2 := Lib.hid (fun W => validM_calls r2 c2 m hm g1 g2 g3 g4 W _ rfl)
  clear h1 h2 h3 h4 g1 g2 g3 g4 hw hx
  have HB := Lib.hid (Below.refl w.heap.size w)
  unfold tmR
  obtain ⟨v1, hv1⟩ : ∃ v, okM r c l = v := ⟨_, rfl⟩
  obtain ⟨v2, hv2⟩ : ∃ v, okM r2 c2 m = v := ⟨_, rfl⟩
  rw [hv1] at HOK ⊢
  rw [hv2] at HO2 ⊢
  have tA : True := trivial
  have tB : True := trivial
  cases v1 with
  | false =>
    clear hv1 hv2 hl hm
    rw [if_neg (by simp)]
    go_enter Try.func26, Try.ntmps26
    go_wp2_with (first
    | ((with_reducible refine gate_dst (N := 2) rfl ?_); refine box_event ?hg (N := 2) ?hd (cs := (M r c l).toArray) (t := 29) ?hr ?_; (case hd => rfl); (case hg => rfl); (case hr => first | (go_simp; done) | (go_simp; rfl)); intro ga hg Wa hbox hb; have GWa := Lib.hid ((by rw [hg]; exact below_size (w := w) (by repeat (first | (with_reducible first | exact HB.out | apply below_alloc | apply pw_below_drewN | apply below_drew) | exact HB.out))) : w.heap.size ≤ ga); have HB_n := Lib.hid (below_step (w := w) (by repeat (first | (with_reducible first | exact HB.out | apply below_alloc | apply pw_below_drewN | apply below_drew) | exact HB.out)) hb); clear HB; have HB := HB_n; clear HB_n; have BKa := Lib.hid (show Blk Wa ga 29 (M r c l) from hbox); clear hbox hg hb)
    | ((with_reducible refine gate_dst (N := 3) rfl ?_); refine box_event ?hg (N := 3) ?hd (cs := (M r2 c2 m).toArray) (t := 29) ?hr ?_; (case hd => rfl); (case hg => rfl); (case hr => first | (go_simp; done) | (go_simp; rfl)); intro gb hg Wb hbox hb; have GWb := Lib.hid ((by rw [hg]; exact below_size (w := w) (by repeat (first | (with_reducible first | exact HB.out | apply below_alloc | apply pw_below_drewN | apply below_drew) | exact HB.out))) : w.heap.size ≤ gb); have NEab : ga ≠ gb := (by rw [hg]; exact Nat.ne_of_lt (Blk.lt (by (with_reducible repeat (first | apply Blk.alloc | apply Blk.drewN | apply Blk.drew)); exact BKa.out))); have NEba : gb ≠ ga := NEab.symm; have BKa_n := Lib.hid (Blk.below (by (with_reducible repeat (first | apply Blk.alloc | apply Blk.drewN | apply Blk.drew)); exact BKa.out) hb); have HB_n := Lib.hid (below_step (w := w) (by repeat (first | (with_reducible first | exact HB.out | apply below_alloc | apply pw_below_drewN | apply below_drew) | exact HB.out)) hb); clear BKa; have BKa := BKa_n; clear BKa_n; clear HB; have HB := HB_n; clear HB_n; have BKb := Lib.hid (show Blk Wb gb 29 (M r2 c2 m) from hbox); clear hbox hg hb)
    | ((with_reducible refine gate_dst (N := 4) rfl ?_); refine box_event ?hg (N := 4) ?hd (cs := (M 0 0 (List.replicate 36 0)).toArray) (t := 29) ?hr ?_; (case hd => rfl); (case hg => rfl); (case hr => first | (go_simp; done) | (go_simp; rfl)); intro gr hg Wr hbox hb; have GWr := Lib.hid ((by rw [hg]; exact below_size (w := w) (by repeat (first | (with_reducible first | exact HB.out | apply below_alloc | apply pw_below_drewN | apply below_drew) | exact HB.out))) : w.heap.size ≤ gr); have NEar : ga ≠ gr := (by rw [hg]; exact Nat.ne_of_lt (Blk.lt (by (with_reducible repeat (first | apply Blk.alloc | apply Blk.drewN | apply Blk.drew)); exact BKa.out))); have NEra : gr ≠ ga := NEar.symm; have NEbr : gb ≠ gr := (by rw [hg]; exact Nat.ne_of_lt (Blk.lt (by (with_reducible repeat (first | apply Blk.alloc | apply Blk.drewN | apply Blk.drew)); exact BKb.out))); have NErb : gr ≠ gb := NEbr.symm; have BKa_n := Lib.hid (Blk.below (by (with_reducible repeat (first | apply Blk.alloc | apply Blk.drewN | apply Blk.drew)); exact BKa.out) hb); have BKb_n := Lib.hid (Blk.below (by (with_reducible repeat (first | apply Blk.alloc | apply Blk.drewN | apply Blk.drew)); exact BKb.out) hb); have HB_n := Lib.hid (below_step (w := w) (by repeat (first | (with_reducible first | exact HB.out | apply below_alloc | apply pw_below_drewN | apply below_drew) | exact HB.out)) hb); clear BKa; have BKa := BKa_n; clear BKa_n; clear BKb; have BKb := BKb_n; clear BKb_n; clear HB; have HB := HB_n; clear HB_n; have BKr := Lib.hid (show Blk Wr gr 29 (M 0 0 (List.replicate 36 0)) from hbox); clear hbox hg hb)
    | ((with_reducible refine gate_ (.load 29 (.tmp 2)) rfl ?_); (try (refine gate_guard (by rfl) ?_; dsimp only)); ((with_reducible refine wpList_ldall rfl 29 (.tmp 2) rfl ga ?hx 29 (M r c l) _ ?hB Try.underlying29 rfl ?hi ?_); (case hx => rfl); (case hB => exact (by (with_reducible repeat (first | apply Blk.alloc | apply Blk.drewN | apply Blk.drew)); exact BKa.out)); (case hi => rw [M_length, HL.out]; exact inf29)))
    | ((with_reducible refine gate_ (.load 29 (.tmp 3)) rfl ?_); (try (refine gate_guard (by rfl) ?_; dsimp only)); ((with_reducible refine wpList_ldall rfl 29 (.tmp 3) rfl gb ?hx 29 (M r2 c2 m) _ ?hB Try.underlying29 rfl ?hi ?_); (case hx => rfl); (case hB => exact (by (with_reducible repeat (first | apply Blk.alloc | apply Blk.drewN | apply Blk.drew)); exact BKb.out)); (case hi => rw [M_length, HM.out]; exact inf29)))
    | (go_at_call 45; have _t := tA; (with_reducible refine (HOK.out _).mono ?_); rintro e W_ ⟨rfl, hb⟩; have BKa_n := Lib.hid (Blk.below (by (with_reducible repeat (first | apply Blk.alloc | apply Blk.drewN | apply Blk.drew)); exact BKa.out) hb); have BKb_n := Lib.hid (Blk.below (by (with_reducible repeat (first | apply Blk.alloc | apply Blk.drewN | apply Blk.drew)); exact BKb.out) hb); have BKr_n := Lib.hid (Blk.below (by (with_reducible repeat (first | apply Blk.alloc | apply Blk.drewN | apply Blk.drew)); exact BKr.out) hb); have HB_n := Lib.hid (below_step (w := w) (by repeat (first | (with_reducible first | exact HB.out | apply below_alloc | apply pw_below_drewN | apply below_drew) | exact HB.out)) hb); clear BKa; have BKa := BKa_n; clear BKa_n; clear BKb; have BKb := BKb_n; clear BKb_n; clear BKr; have BKr := BKr_n; clear BKr_n; clear HB; have HB := HB_n; clear HB_n; clear hb; clear _t tA)
    | ((with_reducible refine wpList_stall rfl 29 4 _ rfl rfl gr ?hx (M 0 0 (List.replicate 36 0)) ?hy 29 (M 0 0 (List.replicate 36 0)) ?hB ?hi ?hf (M_one _ _ _) ?_); (case hx => rfl); (case hy => rfl); (case hB => exact (by (with_reducible repeat (first | apply Blk.alloc | apply Blk.drewN | apply Blk.drew)); exact BKr.out)); (case hi => rw [M_length, List.length_replicate]; exact inf29); (case hf => rfl); intro W_ hbk hfar hbel; have BKa_n := Lib.hid (Blk.other (by (with_reducible repeat (first | apply Blk.alloc | apply Blk.drewN | apply Blk.drew)); exact BKa.out) hfar NEar); have BKb_n := Lib.hid (Blk.other (by (with_reducible repeat (first | apply Blk.alloc | apply Blk.drewN | apply Blk.drew)); exact BKb.out) hfar NEbr); have HB_n := Lib.hid (hbel _ _ (by repeat (first | (with_reducible first | exact HB.out | apply below_alloc | apply pw_below_drewN | apply below_drew) | exact HB.out)) GWr.out); have BKr_n := Lib.hid (hbk); clear BKa; have BKa := BKa_n; clear BKa_n; clear BKb; have BKb := BKb_n; clear BKb_n; clear HB; have HB := HB_n; clear HB_n; clear BKr; have BKr := BKr_n; clear BKr_n; clear hbk hfar hbel))
    exact bodyPost_ret (results_ct Try.results26 _ _ gr 29 _ (0, 0) _ rfl BKr.out Try.underlying29 rfl inf29) rfl ⟨rfl, HB.out⟩
  | true =>
  cases v2 with
  | false =>
    clear hv1 hv2 hl hm
    rw [if_neg (by simp)]
    go_enter Try.func26, Try.ntmps26
    go_wp2_with (first
    | ((with_reducible refine gate_dst (N := 2) rfl ?_); refine box_event ?hg (N := 2) ?hd (cs := (M r c l).toArray) (t := 29) ?hr ?_; (case hd => rfl); (case hg => rfl); (case hr => first | (go_simp; done) | (go_simp; rfl)); intro ga hg Wa hbox hb; have GWa := Lib.hid ((by rw [hg]; exact below_size (w := w) (by repeat (first | (with_reducible first | exact HB.out | apply below_alloc | apply pw_below_drewN | apply below_drew) | exact HB.out))) : w.heap.size ≤ ga); have HB_n := Lib.hid (below_step (w := w) (by repeat (first | (with_reducible first | exact HB.out | apply below_alloc | apply pw_below_drewN | apply below_drew) | exact HB.out)) hb); clear HB; have HB := HB_n; clear HB_n; have BKa := Lib.hid (show Blk Wa ga 29 (M r c l) from hbox); clear hbox hg hb)
    | ((with_reducible refine gate_dst (N := 3) rfl ?_); refine box_event ?hg (N := 3) ?hd (cs := (M r2 c2 m).toArray) (t := 29) ?hr ?_; (case hd => rfl); (case hg => rfl); (case hr => first | (go_simp; done) | (go_simp; rfl)); intro gb hg Wb hbox hb; have GWb := Lib.hid ((by rw [hg]; exact below_size (w := w) (by repeat (first | (with_reducible first | exact HB.out | apply below_alloc | apply pw_below_drewN | apply below_drew) | exact HB.out))) : w.heap.size ≤ gb); have NEab : ga ≠ gb := (by rw [hg]; exact Nat.ne_of_lt (Blk.lt (by (with_reducible repeat (first | apply Blk.alloc | apply Blk.drewN | apply Blk.drew)); exact BKa.out))); have NEba : gb ≠ ga := NEab.symm; have BKa_n := Lib.hid (Blk.below (by (with_reducible repeat (first | apply Blk.alloc | apply Blk.drewN | apply Blk.drew)); exact BKa.out) hb); have HB_n := Lib.hid (below_step (w := w) (by repeat (first | (with_reducible first | exact HB.out | apply below_alloc | apply pw_below_drewN | apply below_drew) | exact HB.out)) hb); clear BKa; have BKa := BKa_n; clear BKa_n; clear HB; have HB := HB_n; clear HB_n; have BKb := Lib.hid (show Blk Wb gb 29 (M r2 c2 m) from hbox); clear hbox hg hb)
    | ((with_reducible refine gate_dst (N := 4) rfl ?_); refine box_event ?hg (N := 4) ?hd (cs := (M 0 0 (List.replicate 36 0)).toArray) (t := 29) ?hr ?_; (case hd => rfl); (case hg => rfl); (case hr => first | (go_simp; done) | (go_simp; rfl)); intro gr hg Wr hbox hb; have GWr := Lib.hid ((by rw [hg]; exact below_size (w := w) (by repeat (first | (with_reducible first | exact HB.out | apply below_alloc | apply pw_below_drewN | apply below_drew) | exact HB.out))) : w.heap.size ≤ gr); have NEar : ga ≠ gr := (by rw [hg]; exact Nat.ne_of_lt (Blk.lt (by (with_reducible repeat (first | apply Blk.alloc | apply Blk.drewN | apply Blk.drew)); exact BKa.out))); have NEra : gr ≠ ga := NEar.symm; have NEbr : gb ≠ gr := (by rw [hg]; exact Nat.ne_of_lt (Blk.lt (by (with_reducible repeat (first | apply Blk.alloc | apply Blk.drewN | apply Blk.drew)); exact BKb.out))); have NErb : gr ≠ gb := NEbr.symm; have BKa_n := Lib.hid (Blk.below (by (with_reducible repeat (first | apply Blk.alloc | apply Blk.drewN | apply Blk.drew)); exact BKa.out) hb); have BKb_n := Lib.hid (Blk.below (by (with_reducible repeat (first | apply Blk.alloc | apply Blk.drewN | apply Blk.drew)); exact BKb.out) hb); have HB_n := Lib.hid (below_step (w := w) (by repeat (first | (with_reducible first | exact HB.out | apply below_alloc | apply pw_below_drewN | apply below_drew) | exact HB.out)) hb); clear BKa; have BKa := BKa_n; clear BKa_n; clear BKb; have BKb := BKb_n; clear BKb_n; clear HB; have HB := HB_n; clear HB_n; have BKr := Lib.hid (show Blk Wr gr 29 (M 0 0 (List.replicate 36 0)) from hbox); clear hbox hg hb)
    | ((with_reducible refine gate_ (.load 29 (.tmp 2)) rfl ?_); (try (refine gate_guard (by rfl) ?_; dsimp only)); ((with_reducible refine wpList_ldall rfl 29 (.tmp 2) rfl ga ?hx 29 (M r c l) _ ?hB Try.underlying29 rfl ?hi ?_); (case hx => rfl); (case hB => exact (by (with_reducible repeat (first | apply Blk.alloc | apply Blk.drewN | apply Blk.drew)); exact BKa.out)); (case hi => rw [M_length, HL.out]; exact inf29)))
    | ((with_reducible refine gate_ (.load 29 (.tmp 3)) rfl ?_); (try (refine gate_guard (by rfl) ?_; dsimp only)); ((with_reducible refine wpList_ldall rfl 29 (.tmp 3) rfl gb ?hx 29 (M r2 c2 m) _ ?hB Try.underlying29 rfl ?hi ?_); (case hx => rfl); (case hB => exact (by (with_reducible repeat (first | apply Blk.alloc | apply Blk.drewN | apply Blk.drew)); exact BKb.out)); (case hi => rw [M_length, HM.out]; exact inf29)))
    | (go_at_call 45; have _t := tA; (with_reducible refine (HOK.out _).mono ?_); rintro e W_ ⟨rfl, hb⟩; have BKa_n := Lib.hid (Blk.below (by (with_reducible repeat (first | apply Blk.alloc | apply Blk.drewN | apply Blk.drew)); exact BKa.out) hb); have BKb_n := Lib.hid (Blk.below (by (with_reducible repeat (first | apply Blk.alloc | apply Blk.drewN | apply Blk.drew)); exact BKb.out) hb); have BKr_n := Lib.hid (Blk.below (by (with_reducible repeat (first | apply Blk.alloc | apply Blk.drewN | apply Blk.drew)); exact BKr.out) hb); have HB_n := Lib.hid (below_step (w := w) (by repeat (first | (with_reducible first | exact HB.out | apply below_alloc | apply pw_below_drewN | apply below_drew) | exact HB.out)) hb); clear BKa; have BKa := BKa_n; clear BKa_n; clear BKb; have BKb := BKb_n; clear BKb_n; clear BKr; have BKr := BKr_n; clear BKr_n; clear HB; have HB := HB_n; clear HB_n; clear hb; clear _t tA)
    | (go_at_call 45; have _t := tB; (with_reducible refine (HO2.out _).mono ?_); rintro e W_ ⟨rfl, hb⟩; have BKa_n := Lib.hid (Blk.below (by (with_reducible repeat (first | apply Blk.alloc | apply Blk.drewN | apply Blk.drew)); exact BKa.out) hb); have BKb_n := Lib.hid (Blk.below (by (with_reducible repeat (first | apply Blk.alloc | apply Blk.drewN | apply Blk.drew)); exact BKb.out) hb); have BKr_n := Lib.hid (Blk.below (by (with_reducible repeat (first | apply Blk.alloc | apply Blk.drewN | apply Blk.drew)); exact BKr.out) hb); have HB_n := Lib.hid (below_step (w := w) (by repeat (first | (with_reducible first | exact HB.out | apply below_alloc | apply pw_below_drewN | apply below_drew) | exact HB.out)) hb); clear BKa; have BKa := BKa_n; clear BKa_n; clear BKb; have BKb := BKb_n; clear BKb_n; clear BKr; have BKr := BKr_n; clear BKr_n; clear HB; have HB := HB_n; clear HB_n; clear hb; clear _t tB)
    | ((with_reducible refine wpList_stall rfl 29 4 _ rfl rfl gr ?hx (M 0 0 (List.replicate 36 0)) ?hy 29 (M 0 0 (List.replicate 36 0)) ?hB ?hi ?hf (M_one _ _ _) ?_); (case hx => rfl); (case hy => rfl); (case hB => exact (by (with_reducible repeat (first | apply Blk.alloc | apply Blk.drewN | apply Blk.drew)); exact BKr.out)); (case hi => rw [M_length, List.length_replicate]; exact inf29); (case hf => rfl); intro W_ hbk hfar hbel; have BKa_n := Lib.hid (Blk.other (by (with_reducible repeat (first | apply Blk.alloc | apply Blk.drewN | apply Blk.drew)); exact BKa.out) hfar NEar); have BKb_n := Lib.hid (Blk.other (by (with_reducible repeat (first | apply Blk.alloc | apply Blk.drewN | apply Blk.drew)); exact BKb.out) hfar NEbr); have HB_n := Lib.hid (hbel _ _ (by repeat (first | (with_reducible first | exact HB.out | apply below_alloc | apply pw_below_drewN | apply below_drew) | exact HB.out)) GWr.out); have BKr_n := Lib.hid (hbk); clear BKa; have BKa := BKa_n; clear BKa_n; clear BKb; have BKb := BKb_n; clear BKb_n; clear HB; have HB := HB_n; clear HB_n; clear BKr; have BKr := BKr_n; clear BKr_n; clear hbk hfar hbel))
    exact bodyPost_ret (results_ct Try.results26 _ _ gr 29 _ (0, 0) _ rfl BKr.out Try.underlying29 rfl inf29) rfl ⟨rfl, HB.out⟩
  | true =>
    obtain ⟨a1, a2, a3, a4⟩ := okM_size hv1
    obtain ⟨b1, b2, b3, b4⟩ := okM_size hv2
    clear hv1 hv2
    rw [if_pos ⟨rfl, rfl⟩]
    obtain ⟨R, rfl⟩ := Int.eq_ofNat_of_zero_le a1
    obtain ⟨K, rfl⟩ := Int.eq_ofNat_of_zero_le a3
    obtain ⟨K2, rfl⟩ := Int.eq_ofNat_of_zero_le b1
    obtain ⟨C, rfl⟩ := Int.eq_ofNat_of_zero_le b3
    rw [Int.toNat_natCast, Int.toNat_natCast, Int.toNat_natCast]
    have hR : R ≤ 6 := by omega
    have hK : K ≤ 6 := by omega
    have hC : C ≤ 6 := by omega
    by_cases hq : K = K2
    · subst hq
      rw [if_pos rfl]
      have HAP := Lib.hid (fun W => implTimes_calls R K C l m hl hm hR hK hC HW.out HX.out W)
      clear hR hK hC hl hm
      go_enter Try.func26, Try.ntmps26
      go_wp2_with (first
    | ((with_reducible refine gate_dst (N := 2) rfl ?_); refine box_event ?hg (N := 2) ?hd (cs := (M R K l).toArray) (t := 29) ?hr ?_; (case hd => rfl); (case hg => rfl); (case hr => first | (go_simp; done) | (go_simp; rfl)); intro ga hg Wa hbox hb; have GWa := Lib.hid ((by rw [hg]; exact below_size (w := w) (by repeat (first | (with_reducible first | exact HB.out | apply below_alloc | apply pw_below_drewN | apply below_drew) | exact HB.out))) : w.heap.size ≤ ga); have HB_n := Lib.hid (below_step (w := w) (by repeat (first | (with_reducible first | exact HB.out | apply below_alloc | apply pw_below_drewN | apply below_drew) | exact HB.out)) hb); clear HB; have HB := HB_n; clear HB_n; have BKa := Lib.hid (show Blk Wa ga 29 (M R K l) from hbox); clear hbox hg hb)
    | ((with_reducible refine gate_dst (N := 3) rfl ?_); refine box_event ?hg (N := 3) ?hd (cs := (M K C m).toArray) (t := 29) ?hr ?_; (case hd => rfl); (case hg => rfl); (case hr => first | (go_simp; done) | (go_simp; rfl)); intro gb hg Wb hbox hb; have GWb := Lib.hid ((by rw [hg]; exact below_size (w := w) (by repeat (first | (with_reducible first | exact HB.out | apply below_alloc | apply pw_below_drewN | apply below_drew) | exact HB.out))) : w.heap.size ≤ gb); have NEab : ga ≠ gb := (by rw [hg]; exact Nat.ne_of_lt (Blk.lt (by (with_reducible repeat (first | apply Blk.alloc | apply Blk.drewN | apply Blk.drew)); exact BKa.out))); have NEba : gb ≠ ga := NEab.symm; have BKa_n := Lib.hid (Blk.below (by (with_reducible repeat (first | apply Blk.alloc | apply Blk.drewN | apply Blk.drew)); exact BKa.out) hb); have HB_n := Lib.hid (below_step (w := w) (by repeat (first | (with_reducible first | exact HB.out | apply below_alloc | apply pw_below_drewN | apply below_drew) | exact HB.out)) hb); clear BKa; have BKa := BKa_n; clear BKa_n; clear HB; have HB := HB_n; clear HB_n; have BKb := Lib.hid (show Blk Wb gb 29 (M K C m) from hbox); clear hbox hg hb)
    | ((with_reducible refine gate_dst (N := 4) rfl ?_); refine box_event ?hg (N := 4) ?hd (cs := (M 0 0 (List.replicate 36 0)).toArray) (t := 29) ?hr ?_; (case hd => rfl); (case hg => rfl); (case hr => first | (go_simp; done) | (go_simp; rfl)); intro gr hg Wr hbox hb; have GWr := Lib.hid ((by rw [hg]; exact below_size (w := w) (by repeat (first | (with_reducible first | exact HB.out | apply below_alloc | apply pw_below_drewN | apply below_drew) | exact HB.out))) : w.heap.size ≤ gr); have NEar : ga ≠ gr := (by rw [hg]; exact Nat.ne_of_lt (Blk.lt (by (with_reducible repeat (first | apply Blk.alloc | apply Blk.drewN | apply Blk.drew)); exact BKa.out))); have NEra : gr ≠ ga := NEar.symm; have NEbr : gb ≠ gr := (by rw [hg]; exact Nat.ne_of_lt (Blk.lt (by (with_reducible repeat (first | apply Blk.alloc | apply Blk.drewN | apply Blk.drew)); exact BKb.out))); have NErb : gr ≠ gb := NEbr.symm; have BKa_n := Lib.hid (Blk.below (by (with_reducible repeat (first | apply Blk.alloc | apply Blk.drewN | apply Blk.drew)); exact BKa.out) hb); have BKb_n := Lib.hid (Blk.below (by (with_reducible repeat (first | apply Blk.alloc | apply Blk.drewN | apply Blk.drew)); exact BKb.out) hb); have HB_n := Lib.hid (below_step (w := w) (by repeat (first | (with_reducible first | exact HB.out | apply below_alloc | apply pw_below_drewN | apply below_drew) | exact HB.out)) hb); clear BKa; have BKa := BKa_n; clear BKa_n; clear BKb; have BKb := BKb_n; clear BKb_n; clear HB; have HB := HB_n; clear HB_n; have BKr := Lib.hid (show Blk Wr gr 29 (M 0 0 (List.replicate 36 0)) from hbox); clear hbox hg hb)
    | ((with_reducible refine gate_ (.load 29 (.tmp 2)) rfl ?_); (try (refine gate_guard (by rfl) ?_; dsimp only)); ((with_reducible refine wpList_ldall rfl 29 (.tmp 2) rfl ga ?hx 29 (M R K l) _ ?hB Try.underlying29 rfl ?hi ?_); (case hx => rfl); (case hB => exact (by (with_reducible repeat (first | apply Blk.alloc | apply Blk.drewN | apply Blk.drew)); exact BKa.out)); (case hi => rw [M_length, HL.out]; exact inf29)))
    | ((with_reducible refine gate_ (.load 29 (.tmp 3)) rfl ?_); (try (refine gate_guard (by rfl) ?_; dsimp only)); ((with_reducible refine wpList_ldall rfl 29 (.tmp 3) rfl gb ?hx 29 (M K C m) _ ?hB Try.underlying29 rfl ?hi ?_); (case hx => rfl); (case hB => exact (by (with_reducible repeat (first | apply Blk.alloc | apply Blk.drewN | apply Blk.drew)); exact BKb.out)); (case hi => rw [M_length, HM.out]; exact inf29)))
    | (go_at_call 45; have _t := tA; (with_reducible refine (HOK.out _).mono ?_); rintro e W_ ⟨rfl, hb⟩; have BKa_n := Lib.hid (Blk.below (by (with_reducible repeat (first | apply Blk.alloc | apply Blk.drewN | apply Blk.drew)); exact BKa.out) hb); have BKb_n := Lib.hid (Blk.below (by (with_reducible repeat (first | apply Blk.alloc | apply Blk.drewN | apply Blk.drew)); exact BKb.out) hb); have BKr_n := Lib.hid (Blk.below (by (with_reducible repeat (first | apply Blk.alloc | apply Blk.drewN | apply Blk.drew)); exact BKr.out) hb); have HB_n := Lib.hid (below_step (w := w) (by repeat (first | (with_reducible first | exact HB.out | apply below_alloc | apply pw_below_drewN | apply below_drew) | exact HB.out)) hb); clear BKa; have BKa := BKa_n; clear BKa_n; clear BKb; have BKb := BKb_n; clear BKb_n; clear BKr; have BKr := BKr_n; clear BKr_n; clear HB; have HB := HB_n; clear HB_n; clear hb; clear _t tA)
    | (go_at_call 45; have _t := tB; (with_reducible refine (HO2.out _).mono ?_); rintro e W_ ⟨rfl, hb⟩; have BKa_n := Lib.hid (Blk.below (by (with_reducible repeat (first | apply Blk.alloc | apply Blk.drewN | apply Blk.drew)); exact BKa.out) hb); have BKb_n := Lib.hid (Blk.below (by (with_reducible repeat (first | apply Blk.alloc | apply Blk.drewN | apply Blk.drew)); exact BKb.out) hb); have BKr_n := Lib.hid (Blk.below (by (with_reducible repeat (first | apply Blk.alloc | apply Blk.drewN | apply Blk.drew)); exact BKr.out) hb); have HB_n := Lib.hid (below_step (w := w) (by repeat (first | (with_reducible first | exact HB.out | apply below_alloc | apply pw_below_drewN | apply below_drew) | exact HB.out)) hb); clear BKa; have BKa := BKa_n; clear BKa_n; clear BKb; have BKb := BKb_n; clear BKb_n; clear BKr; have BKr := BKr_n; clear BKr_n; clear HB; have HB := HB_n; clear HB_n; clear hb; clear _t tB; have hk1 : W_.cell? ⟨ga, 1, none⟩ = some (.int .i8 (K : Int)) := BKa.out.cell 1; have hk2 : W_.cell? ⟨gb, 0, none⟩ = some (.int .i8 (K : Int)) := BKb.out.cell 0)
    | (go_at_call 52; (with_reducible refine (HAP.out _).mono ?_); rintro e W_ ⟨rfl, hb⟩; have BKa_n := Lib.hid (Blk.below (by (with_reducible repeat (first | apply Blk.alloc | apply Blk.drewN | apply Blk.drew)); exact BKa.out) hb); have BKb_n := Lib.hid (Blk.below (by (with_reducible repeat (first | apply Blk.alloc | apply Blk.drewN | apply Blk.drew)); exact BKb.out) hb); have BKr_n := Lib.hid (Blk.below (by (with_reducible repeat (first | apply Blk.alloc | apply Blk.drewN | apply Blk.drew)); exact BKr.out) hb); have HB_n := Lib.hid (below_step (w := w) (by repeat (first | (with_reducible first | exact HB.out | apply below_alloc | apply pw_below_drewN | apply below_drew) | exact HB.out)) hb); clear BKa; have BKa := BKa_n; clear BKa_n; clear BKb; have BKb := BKb_n; clear BKb_n; clear BKr; have BKr := BKr_n; clear BKr_n; clear HB; have HB := HB_n; clear HB_n; clear hb)
    | ((with_reducible refine wpList_stall rfl 29 4 _ rfl rfl gr ?hx (M R C (mmS l m K C R 0)) ?hy 29 (M 0 0 (List.replicate 36 0)) ?hB ?hi ?hf (M_one _ _ _) ?_); (case hx => rfl); (case hy => rfl); (case hB => exact (by (with_reducible repeat (first | apply Blk.alloc | apply Blk.drewN | apply Blk.drew)); exact BKr.out)); (case hi => rw [M_length, mmS_length]; exact inf29); (case hf => rw [M_length, mmS_length]; rfl); intro W_ hbk hfar hbel; have BKa_n := Lib.hid (Blk.other (by (with_reducible repeat (first | apply Blk.alloc | apply Blk.drewN | apply Blk.drew)); exact BKa.out) hfar NEar); have BKb_n := Lib.hid (Blk.other (by (with_reducible repeat (first | apply Blk.alloc | apply Blk.drewN | apply Blk.drew)); exact BKb.out) hfar NEbr); have HB_n := Lib.hid (hbel _ _ (by repeat (first | (with_reducible first | exact HB.out | apply below_alloc | apply pw_below_drewN | apply below_drew) | exact HB.out)) GWr.out); have BKr_n := Lib.hid (hbk); clear BKa; have BKa := BKa_n; clear BKa_n; clear BKb; have BKb := BKb_n; clear BKb_n; clear HB; have HB := HB_n; clear HB_n; clear BKr; have BKr := BKr_n; clear BKr_n; clear hbk hfar hbel))
      exact bodyPost_ret (results_ct Try.results26 _ _ gr 29 _ (0, 0) _ rfl BKr.out Try.underlying29 rfl (by simp only [List.size_toArray]; rw [M_length, mmS_length]; exact inf29)) rfl ⟨rfl, HB.out⟩
    · have hq1 : ((K : Int) == (K2 : Int)) = false := beq_eq_false_iff_ne.mpr (by omega)
      have hq2 : ((K : Int) != (K2 : Int)) = true := by rw [bne, hq1]; rfl
      have hq3 : ¬ ((K : Int) = (K2 : Int)) := by omega
      rw [if_neg hq3]
      clear hR hK hC hl hm hq
      go_enter Try.func26, Try.ntmps26
      go_wp2_with (first
    | ((with_reducible refine gate_dst (N := 2) rfl ?_); refine box_event ?hg (N := 2) ?hd (cs := (M R K l).toArray) (t := 29) ?hr ?_; (case hd => rfl); (case hg => rfl); (case hr => first | (go_simp; done) | (go_simp; rfl)); intro ga hg Wa hbox hb; have GWa := Lib.hid ((by rw [hg]; exact below_size (w := w) (by repeat (first | (with_reducible first | exact HB.out | apply below_alloc | apply pw_below_drewN | apply below_drew) | exact HB.out))) : w.heap.size ≤ ga); have HB_n := Lib.hid (below_step (w := w) (by repeat (first | (with_reducible first | exact HB.out | apply below_alloc | apply pw_below_drewN | apply below_drew) | exact HB.out)) hb); clear HB; have HB := HB_n; clear HB_n; have BKa := Lib.hid (show Blk Wa ga 29 (M R K l) from hbox); clear hbox hg hb)
    | ((with_reducible refine gate_dst (N := 3) rfl ?_); refine box_event ?hg (N := 3) ?hd (cs := (M K2 C m).toArray) (t := 29) ?hr ?_; (case hd => rfl); (case hg => rfl); (case hr => first | (go_simp; done) | (go_simp; rfl)); intro gb hg Wb hbox hb; have GWb := Lib.hid ((by rw [hg]; exact below_size (w := w) (by repeat (first | (with_reducible first | exact HB.out | apply below_alloc | apply pw_below_drewN | apply below_drew) | exact HB.out))) : w.heap.size ≤ gb); have NEab : ga ≠ gb := (by rw [hg]; exact Nat.ne_of_lt (Blk.lt (by (with_reducible repeat (first | apply Blk.alloc | apply Blk.drewN | apply Blk.drew)); exact BKa.out))); have NEba : gb ≠ ga := NEab.symm; have BKa_n := Lib.hid (Blk.below (by (with_reducible repeat (first | apply Blk.alloc | apply Blk.drewN | apply Blk.drew)); exact BKa.out) hb); have HB_n := Lib.hid (below_step (w := w) (by repeat (first | (with_reducible first | exact HB.out | apply below_alloc | apply pw_below_drewN | apply below_drew) | exact HB.out)) hb); clear BKa; have BKa := BKa_n; clear BKa_n; clear HB; have HB := HB_n; clear HB_n; have BKb := Lib.hid (show Blk Wb gb 29 (M K2 C m) from hbox); clear hbox hg hb)
    | ((with_reducible refine gate_dst (N := 4) rfl ?_); refine box_event ?hg (N := 4) ?hd (cs := (M 0 0 (List.replicate 36 0)).toArray) (t := 29) ?hr ?_; (case hd => rfl); (case hg => rfl); (case hr => first | (go_simp; done) | (go_simp; rfl)); intro gr hg Wr hbox hb; have GWr := Lib.hid ((by rw [hg]; exact below_size (w := w) (by repeat (first | (with_reducible first | exact HB.out | apply below_alloc | apply pw_below_drewN | apply below_drew) | exact HB.out))) : w.heap.size ≤ gr); have NEar : ga ≠ gr := (by rw [hg]; exact Nat.ne_of_lt (Blk.lt (by (with_reducible repeat (first | apply Blk.alloc | apply Blk.drewN | apply Blk.drew)); exact BKa.out))); have NEra : gr ≠ ga := NEar.symm; have NEbr : gb ≠ gr := (by rw [hg]; exact Nat.ne_of_lt (Blk.lt (by (with_reducible repeat (first | apply Blk.alloc | apply Blk.drewN | apply Blk.drew)); exact BKb.out))); have NErb : gr ≠ gb := NEbr.symm; have BKa_n := Lib.hid (Blk.below (by (with_reducible repeat (first | apply Blk.alloc | apply Blk.drewN | apply Blk.drew)); exact BKa.out) hb); have BKb_n := Lib.hid (Blk.below (by (with_reducible repeat (first | apply Blk.alloc | apply Blk.drewN | apply Blk.drew)); exact BKb.out) hb); have HB_n := Lib.hid (below_step (w := w) (by repeat (first | (with_reducible first | exact HB.out | apply below_alloc | apply pw_below_drewN | apply below_drew) | exact HB.out)) hb); clear BKa; have BKa := BKa_n; clear BKa_n; clear BKb; have BKb := BKb_n; clear BKb_n; clear HB; have HB := HB_n; clear HB_n; have BKr := Lib.hid (show Blk Wr gr 29 (M 0 0 (List.replicate 36 0)) from hbox); clear hbox hg hb)
    | ((with_reducible refine gate_ (.load 29 (.tmp 2)) rfl ?_); (try (refine gate_guard (by rfl) ?_; dsimp only)); ((with_reducible refine wpList_ldall rfl 29 (.tmp 2) rfl ga ?hx 29 (M R K l) _ ?hB Try.underlying29 rfl ?hi ?_); (case hx => rfl); (case hB => exact (by (with_reducible repeat (first | apply Blk.alloc | apply Blk.drewN | apply Blk.drew)); exact BKa.out)); (case hi => rw [M_length, HL.out]; exact inf29)))
    | ((with_reducible refine gate_ (.load 29 (.tmp 3)) rfl ?_); (try (refine gate_guard (by rfl) ?_; dsimp only)); ((with_reducible refine wpList_ldall rfl 29 (.tmp 3) rfl gb ?hx 29 (M K2 C m) _ ?hB Try.underlying29 rfl ?hi ?_); (case hx => rfl); (case hB => exact (by (with_reducible repeat (first | apply Blk.alloc | apply Blk.drewN | apply Blk.drew)); exact BKb.out)); (case hi => rw [M_length, HM.out]; exact inf29)))
    | (go_at_call 45; have _t := tA; (with_reducible refine (HOK.out _).mono ?_); rintro e W_ ⟨rfl, hb⟩; have BKa_n := Lib.hid (Blk.below (by (with_reducible repeat (first | apply Blk.alloc | apply Blk.drewN | apply Blk.drew)); exact BKa.out) hb); have BKb_n := Lib.hid (Blk.below (by (with_reducible repeat (first | apply Blk.alloc | apply Blk.drewN | apply Blk.drew)); exact BKb.out) hb); have BKr_n := Lib.hid (Blk.below (by (with_reducible repeat (first | apply Blk.alloc | apply Blk.drewN | apply Blk.drew)); exact BKr.out) hb); have HB_n := Lib.hid (below_step (w := w) (by repeat (first | (with_reducible first | exact HB.out | apply below_alloc | apply pw_below_drewN | apply below_drew) | exact HB.out)) hb); clear BKa; have BKa := BKa_n; clear BKa_n; clear BKb; have BKb := BKb_n; clear BKb_n; clear BKr; have BKr := BKr_n; clear BKr_n; clear HB; have HB := HB_n; clear HB_n; clear hb; clear _t tA)
    | (go_at_call 45; have _t := tB; (with_reducible refine (HO2.out _).mono ?_); rintro e W_ ⟨rfl, hb⟩; have BKa_n := Lib.hid (Blk.below (by (with_reducible repeat (first | apply Blk.alloc | apply Blk.drewN | apply Blk.drew)); exact BKa.out) hb); have BKb_n := Lib.hid (Blk.below (by (with_reducible repeat (first | apply Blk.alloc | apply Blk.drewN | apply Blk.drew)); exact BKb.out) hb); have BKr_n := Lib.hid (Blk.below (by (with_reducible repeat (first | apply Blk.alloc | apply Blk.drewN | apply Blk.drew)); exact BKr.out) hb); have HB_n := Lib.hid (below_step (w := w) (by repeat (first | (with_reducible first | exact HB.out | apply below_alloc | apply pw_below_drewN | apply below_drew) | exact HB.out)) hb); clear BKa; have BKa := BKa_n; clear BKa_n; clear BKb; have BKb := BKb_n; clear BKb_n; clear BKr; have BKr := BKr_n; clear BKr_n; clear HB; have HB := HB_n; clear HB_n; clear hb; clear _t tB; have hk1 : W_.cell? ⟨ga, 1, none⟩ = some (.int .i8 (K : Int)) := BKa.out.cell 1; have hk2 : W_.cell? ⟨gb, 0, none⟩ = some (.int .i8 (K2 : Int)) := BKb.out.cell 0)
    | ((with_reducible refine wpList_stall rfl 29 4 _ rfl rfl gr ?hx (M 0 0 (List.replicate 36 0)) ?hy 29 (M 0 0 (List.replicate 36 0)) ?hB ?hi ?hf (M_one _ _ _) ?_); (case hx => rfl); (case hy => rfl); (case hB => exact (by (with_reducible repeat (first | apply Blk.alloc | apply Blk.drewN | apply Blk.drew)); exact BKr.out)); (case hi => rw [M_length, List.length_replicate]; exact inf29); (case hf => rfl); intro W_ hbk hfar hbel; have BKa_n := Lib.hid (Blk.other (by (with_reducible repeat (first | apply Blk.alloc | apply Blk.drewN | apply Blk.drew)); exact BKa.out) hfar NEar); have BKb_n := Lib.hid (Blk.other (by (with_reducible repeat (first | apply Blk.alloc | apply Blk.drewN | apply Blk.drew)); exact BKb.out) hfar NEbr); have HB_n := Lib.hid (hbel _ _ (by repeat (first | (with_reducible first | exact HB.out | apply below_alloc | apply pw_below_drewN | apply below_drew) | exact HB.out)) GWr.out); have BKr_n := Lib.hid (hbk); clear BKa; have BKa := BKa_n; clear BKa_n; clear BKb; have BKb := BKb_n; clear BKb_n; clear HB; have HB := HB_n; clear HB_n; clear BKr; have BKr := BKr_n; clear BKr_n; clear hbk hfar hbel))
      exact bodyPost_ret (results_ct Try.results26 _ _ gr 29 _ (0, 0) _ rfl BKr.out Try.underlying29 rfl inf29) rfl ⟨rfl, HB.out⟩

set_option maxHeartbeats 16000000 in
set_option maxRecDepth 100000 in
theorem lawTimesM_calls (r c : Int) (l : List Int) (r2 c2 : Int) (m : List Int) (hl : l.length = 36) (hm : m.length = 36) (h1 : -128 ≤ r) (h2 : r ≤ 127) (h3 : -128 ≤ c) (h4 : c ≤ 127) (g1 : -128 ≤ r2) (g2 : r2 ≤ 127) (g3 : -128 ≤ c2) (g4 : c2 ≤ 127) (hw : W16 l) (hx : W16 m) (w : World) :
    Calls Try.prog 7 #[.agg (M r c l).toArray, .agg (M r2 c2 m).toArray] w fun e w' => e = .returned (.bool true) ∧ Below w.heap.size w w' := by
  obtain ⟨R, C, L, e0, hL, he⟩ := tmRes r c l r2 c2 m
  have HS := Lib.hid (fun W => he ▸ specTimesM_calls r c l r2 c2 m hl hm h1 h2 h3 h4 g1 g2 g3 g4 hw hx W)
  have HI := Lib.hid (fun W => he ▸ implTimesM_calls r c l r2 c2 m hl hm h1 h2 h3 h4 g1 g2 g3 g4 hw hx W)
  have HT := Lib.hid (fun W => toM_calls r c l hl W)
  have HV := Lib.hid (fun W => toM_calls r2 c2 m hm W)
  have HE := Lib.hid (fun W => eqM_calls R C L hL W)
  have IA : Hid ((Try.prog.info? 40).map (·.size) = some (M r c l).length) := Lib.hid (by rw [M_length, hl]; exact inf40)
  have IB : Hid ((Try.prog.info? 40).map (·.size) = some (M r2 c2 m).length) := Lib.hid (by rw [M_length, hm]; exact inf40)
  have ID : Hid ((Try.prog.info? 29).map (·.size) = some (M R C L).length) := Lib.hid (by rw [M_length, hL]; exact inf29)
  have LD : Hid ((M R C L).length = 38) := Lib.hid (by rw [M_length, hL])
  have OD := Lib.hid (M_one R C L)
  clear hl hm h1 h2 h3 h4 g1 g2 g3 g4 hw hx he hL
  generalize M r c l = A at HS HI HT IA ⊢
  generalize M r2 c2 m = B at HS HI HV IB ⊢
  generalize M R C L = D at HS HI HE ID LD OD
  have HB := Lib.hid (Below.refl w.heap.size w)
  go_enter Try.func7, Try.ntmps7
  go_wp2_with (first
    | ((with_reducible refine gate_dst (N := 2) rfl ?_); refine box_event ?hg (N := 2) ?hd (cs := (A).toArray) (t := 40) ?hr ?_; (case hd => rfl); (case hg => rfl); (case hr => rfl); intro gP hg WP hbox hb; clear hg; have HB_n := Lib.hid (below_step (w := w) (by repeat (first | (with_reducible first | exact HB.out | apply below_alloc | apply pw_below_drewN | apply below_drew) | exact HB.out)) hb); clear HB; have HB := HB_n; clear HB_n; have P := Lib.hid (show Blk WP gP 40 (A) from hbox); clear hbox hb)
    | ((with_reducible refine gate_dst (N := 3) rfl ?_); refine box_event ?hg (N := 3) ?hd (cs := (B).toArray) (t := 40) ?hr ?_; (case hd => rfl); (case hg => rfl); (case hr => rfl); intro gV hg WV hbox hb; clear hg; have P_n := Lib.hid (Blk.below (by (with_reducible repeat (first | apply Blk.alloc | apply Blk.drewN | apply Blk.drew)); exact P.out) hb); have HB_n := Lib.hid (below_step (w := w) (by repeat (first | (with_reducible first | exact HB.out | apply below_alloc | apply pw_below_drewN | apply below_drew) | exact HB.out)) hb); clear P; have P := P_n; clear P_n; clear HB; have HB := HB_n; clear HB_n; have V := Lib.hid (show Blk WV gV 40 (B) from hbox); clear hbox hb))
  have P_n := Lib.hid (Blk.drew P.out)
  have V_n := Lib.hid (Blk.drew V.out)
  have HB_n := Lib.hid (below_drew HB.out)
  clear P
  have P := P_n
  clear P_n
  clear V
  have V := V_n
  clear V_n
  clear HB
  have HB := HB_n
  clear HB_n
  refine start_ (n := 11) (S := fun w' => Blk w' gP 40 (A) ∧ Blk w' gV 40 (B)) (ds := [9]) #[false, false, false, false, false, false, false, false, false, false, false] (by kernel_rfl) rfl rfl ⟨P.out, V.out⟩ (fun hHeld => ?_)
  generalize WV.drew = W1 at P V HB hHeld ⊢
  refine take_ (i := 0) (N := some 10) (v := ?_) (a' := ?_) #[true, false, false, false, false, false, false, false, false, false, false] rfl rfl (by kernel_rfl) (fun _ _ _ h => h) (Or.inl ⟨by rfl, ?_⟩) hHeld ?_ ?_
  rotate_left
  · rintro w' ⟨s0, s1⟩
    refine yl_ 40 (.tmp 2) ?ho gP ?hx 40 (A) _ s0 Try.underlying40 rfl IA.out
    case ho => rfl
    case hx => rfl
  rotate_left
  · simp only [Act.put, List.setIfInBounds_toArray, List.set_cons_zero, List.set_cons_succ, i64_w, i32_w]
    rfl
  refine take_ (i := 2) (N := some 12) (v := ?_) (a' := ?_) #[true, false, true, false, false, false, false, false, false, false, false] rfl rfl (by kernel_rfl) (fun _ _ _ h => h) (Or.inl ⟨by rfl, ?_⟩) hHeld ?_ ?_
  rotate_left
  · rintro w' ⟨s0, s1⟩
    refine yl_ 40 (.tmp 3) ?ho gV ?hx 40 (B) _ s1 Try.underlying40 rfl IB.out
    case ho => rfl
    case hx => rfl
  rotate_left
  · simp only [Act.put, List.setIfInBounds_toArray, List.set_cons_zero, List.set_cons_succ, i64_w, i32_w]
    rfl
  refine join_ (σ := Nat) 2 #[true, true, true, true, true, true, true, true, true, false, false] (fun g_ => [(11, .agg (A).toArray), (13, .agg (B).toArray), (14, .tuple #[.agg (D).toArray, .int .i64 e0]), (9, .tuple #[.agg (D).toArray, .int .i64 e0]), (15, .agg (D).toArray), (16, .int .i64 e0), (5, .pointer (some ⟨g_, 0, none⟩))]) (fun g_ w' => Blk w' gP 40 (A) ∧ Blk w' gV 40 (B) ∧ Blk w' g_ 29 (M 0 0 (List.replicate 36 0)) ∧ w.heap.size ≤ g_ ∧ (gP ≠ g_ ∧ gV ≠ g_) ∧ Below w.heap.size w w') ?_ ?_
  rotate_left
  · intro hJ
    refine two_ (i := 1) (j := 8) (Ni := some 11) (Nj := some 5) #[true, true, true, false, false, false, false, false, false, false, false] #[true, false, true, false, false, false, false, false, true, false, false] rfl rfl rfl rfl (by kernel_rfl) (by decide) (by decide) (fun K hK => ?_) (fun K hK => ?_)
    · skip
      refine goes_ Try.func17 (by kernel_rfl) rfl #[.agg (A).toArray] (by rfl) rfl rfl (by (try simp only [List.map_toArray, List.map_cons, List.map_nil]); first | done | rfl) ?_
      with_reducible refine (HT.out _).mono ?_
      rintro e W_ ⟨rfl, hb⟩
      refine ⟨_, rfl, ?_⟩
      have P_n := Lib.hid (Blk.below P.out hb)
      have V_n := Lib.hid (Blk.below V.out hb)
      have HB_n := Lib.hid (below_step HB.out hb)
      clear P
      have P := P_n
      clear P_n
      clear V
      have V := V_n
      clear V_n
      clear HB
      have HB := HB_n
      clear HB_n
      clear hb
      refine hK.out _ _ ⟨P.out, V.out⟩ (fun hHeld => ?_)
      clear hK K
      refine norm_ (a' := ?_) ?_ ?_
      rotate_left
      · show Act.put _ (some 11) _ = _
        simp only [Act.put, List.setIfInBounds_toArray, List.set_cons_zero, List.set_cons_succ, i64_w, i32_w]
        rfl
      refine two_ (i := 3) (j := 8) (Ni := some 13) (Nj := some 5) #[true, true, true, true, false, false, false, false, false, false, false] #[true, true, true, false, false, false, false, false, true, false, false] rfl rfl rfl rfl (by kernel_rfl) (by decide) (by decide) (fun K hK => ?_) (fun K hK => ?_)
      · skip
        refine goes_ Try.func17 (by kernel_rfl) rfl #[.agg (B).toArray] (by rfl) rfl rfl (by (try simp only [List.map_toArray, List.map_cons, List.map_nil]); first | done | rfl) ?_
        with_reducible refine (HV.out _).mono ?_
        rintro e W_ ⟨rfl, hb⟩
        refine ⟨_, rfl, ?_⟩
        have P_n := Lib.hid (Blk.below P.out hb)
        have V_n := Lib.hid (Blk.below V.out hb)
        have HB_n := Lib.hid (below_step HB.out hb)
        clear P
        have P := P_n
        clear P_n
        clear V
        have V := V_n
        clear V_n
        clear HB
        have HB := HB_n
        clear HB_n
        clear hb
        refine hK.out _ _ ⟨P.out, V.out⟩ (fun hHeld => ?_)
        clear hK K
        refine norm_ (a' := ?_) ?_ ?_
        rotate_left
        · show Act.put _ (some 13) _ = _
          simp only [Act.put, List.setIfInBounds_toArray, List.set_cons_zero, List.set_cons_succ, i64_w, i32_w]
          rfl
        refine two_ (i := 4) (j := 8) (Ni := some 14) (Nj := some 5) #[true, true, true, true, true, false, false, false, false, false, false] #[true, true, true, true, false, false, false, false, true, false, false] rfl rfl rfl rfl (by kernel_rfl) (by decide) (by decide) (fun K hK => ?_) (fun K hK => ?_)
        · skip
          refine goes_ Try.func25 (by kernel_rfl) rfl #[.agg (A).toArray, .agg (B).toArray] (by rfl) rfl rfl (by (try simp only [List.map_toArray, List.map_cons, List.map_nil]); first | done | rfl) ?_
          with_reducible refine (HS.out _).mono ?_
          rintro e W_ ⟨rfl, hb⟩
          refine ⟨_, rfl, ?_⟩
          have P_n := Lib.hid (Blk.below P.out hb)
          have V_n := Lib.hid (Blk.below V.out hb)
          have HB_n := Lib.hid (below_step HB.out hb)
          clear P
          have P := P_n
          clear P_n
          clear V
          have V := V_n
          clear V_n
          clear HB
          have HB := HB_n
          clear HB_n
          clear hb
          refine hK.out _ _ ⟨P.out, V.out⟩ (fun hHeld => ?_)
          clear hK K
          refine norm_ (a' := ?_) ?_ ?_
          rotate_left
          · show Act.put _ (some 14) _ = _
            simp only [Act.put, List.setIfInBounds_toArray, List.set_cons_zero, List.set_cons_succ, i64_w, i32_w]
            rfl
          refine pure_ (i := 5) (N := some 9) (v := ?_) (a' := ?_) #[true, true, true, true, true, true, false, false, false, false, false] rfl rfl (by kernel_rfl) (fun _ _ _ h => h) (Or.inl ⟨by rfl, ?_⟩) ?_ ?_
          rotate_left
          · intro w'
            go_simp
            with_reducible rfl
          rotate_left
          · simp only [Act.put, List.setIfInBounds_toArray, List.set_cons_zero, List.set_cons_succ, i64_w, i32_w]
            rfl
          refine pure_ (i := 6) (N := some 15) (v := ?_) (a' := ?_) #[true, true, true, true, true, true, true, false, false, false, false] rfl rfl (by kernel_rfl) (fun _ _ _ h => h) (Or.inl ⟨by rfl, ?_⟩) ?_ ?_
          rotate_left
          · intro w'
            go_simp
            with_reducible rfl
          rotate_left
          · simp only [Act.put, List.setIfInBounds_toArray, List.set_cons_zero, List.set_cons_succ, i64_w, i32_w]
            rfl
          refine pure_ (i := 7) (N := some 16) (v := ?_) (a' := ?_) #[true, true, true, true, true, true, true, true, false, false, false] rfl rfl (by kernel_rfl) (fun _ _ _ h => h) (Or.inl ⟨by rfl, ?_⟩) ?_ ?_
          rotate_left
          · intro w'
            go_simp
            with_reducible rfl
          rotate_left
          · simp only [Act.put, List.setIfInBounds_toArray, List.set_cons_zero, List.set_cons_succ, i64_w, i32_w]
            rfl
          refine one_ (i := 8) (N := some 5) #[true, true, true, true, true, true, true, true, true, false, false] rfl rfl (by kernel_rfl) (by decide) (fun K hK => ?_)
          refine alloc_ (N := some 5) ?hw ?hN (M 0 0 (List.replicate 36 0)) 29 ?hr ?_
          case hw => rfl
          case hN => rfl
          case hr => first | (go_simp; done) | (go_simp; rfl)
          intro ga_ hg W_ NB_ hb
          have GE := Lib.hid ((by rw [hg]; exact below_size HB.out) : w.heap.size ≤ ga_)
          have NB := Lib.hid NB_
          have NE0 : gP ≠ ga_ := (by rw [hg]; exact Nat.ne_of_lt (Blk.lt P.out))
          have NE1 : gV ≠ ga_ := (by rw [hg]; exact Nat.ne_of_lt (Blk.lt V.out))
          have P_n := Lib.hid (Blk.below P.out hb)
          have V_n := Lib.hid (Blk.below V.out hb)
          have HB_n := Lib.hid (below_step HB.out hb)
          clear P
          have P := P_n
          clear P_n
          clear V
          have V := V_n
          clear V_n
          clear HB
          have HB := HB_n
          clear HB_n
          clear hb hg NB_
          refine hK.out _ _ ⟨P.out, V.out⟩ (fun hHeld => ?_)
          clear hK K
          refine norm_ (a' := ?_) ?_ ?_
          rotate_left
          · show Act.put _ (some 5) _ = _
            simp only [Act.put, List.setIfInBounds_toArray, List.set_cons_zero, List.set_cons_succ, i64_w, i32_w]
            rfl
          have hj := hJ _ _ ⟨P.out, V.out, NB.out, GE.out, ⟨NE0, NE1⟩, HB.out⟩
          simp only [putAll, Act.put, List.setIfInBounds_toArray, List.set_cons_zero, List.set_cons_succ, i64_w, i32_w] at hj
          exact hj
        · skip
          refine alloc_ (N := some 5) ?hw ?hN (M 0 0 (List.replicate 36 0)) 29 ?hr ?_
          case hw => rfl
          case hN => rfl
          case hr => first | (go_simp; done) | (go_simp; rfl)
          intro ga_ hg W_ NB_ hb
          have GE := Lib.hid ((by rw [hg]; exact below_size HB.out) : w.heap.size ≤ ga_)
          have NB := Lib.hid NB_
          have NE0 : gP ≠ ga_ := (by rw [hg]; exact Nat.ne_of_lt (Blk.lt P.out))
          have NE1 : gV ≠ ga_ := (by rw [hg]; exact Nat.ne_of_lt (Blk.lt V.out))
          have P_n := Lib.hid (Blk.below P.out hb)
          have V_n := Lib.hid (Blk.below V.out hb)
          have HB_n := Lib.hid (below_step HB.out hb)
          clear P
          have P := P_n
          clear P_n
          clear V
          have V := V_n
          clear V_n
          clear HB
          have HB := HB_n
          clear HB_n
          clear hb hg NB_
          refine hK.out _ _ ⟨P.out, V.out⟩ (fun hHeld => ?_)
          clear hK K
          refine norm_ (a' := ?_) ?_ ?_
          rotate_left
          · show Act.put _ (some 5) _ = _
            simp only [Act.put, List.setIfInBounds_toArray, List.set_cons_zero, List.set_cons_succ, i64_w, i32_w]
            rfl
          refine one_ (i := 4) (N := some 14) #[true, true, true, true, true, false, false, false, true, false, false] rfl rfl (by kernel_rfl) (by decide) (fun K hK => ?_)
          refine goes_ Try.func25 (by kernel_rfl) rfl #[.agg (A).toArray, .agg (B).toArray] (by rfl) rfl rfl (by (try simp only [List.map_toArray, List.map_cons, List.map_nil]); first | done | rfl) ?_
          with_reducible refine (HS.out _).mono ?_
          rintro e W_ ⟨rfl, hb⟩
          refine ⟨_, rfl, ?_⟩
          have P_n := Lib.hid (Blk.below P.out hb)
          have V_n := Lib.hid (Blk.below V.out hb)
          have NB_n := Lib.hid (Blk.below NB.out hb)
          have HB_n := Lib.hid (below_step HB.out hb)
          clear P
          have P := P_n
          clear P_n
          clear V
          have V := V_n
          clear V_n
          clear NB
          have NB := NB_n
          clear NB_n
          clear HB
          have HB := HB_n
          clear HB_n
          clear hb
          refine hK.out _ _ ⟨P.out, V.out⟩ (fun hHeld => ?_)
          clear hK K
          refine norm_ (a' := ?_) ?_ ?_
          rotate_left
          · show Act.put _ (some 14) _ = _
            simp only [Act.put, List.setIfInBounds_toArray, List.set_cons_zero, List.set_cons_succ, i64_w, i32_w]
            rfl
          refine pure_ (i := 5) (N := some 9) (v := ?_) (a' := ?_) #[true, true, true, true, true, true, false, false, true, false, false] rfl rfl (by kernel_rfl) (fun _ _ _ h => h) (Or.inl ⟨by rfl, ?_⟩) ?_ ?_
          rotate_left
          · intro w'
            go_simp
            with_reducible rfl
          rotate_left
          · simp only [Act.put, List.setIfInBounds_toArray, List.set_cons_zero, List.set_cons_succ, i64_w, i32_w]
            rfl
          refine pure_ (i := 6) (N := some 15) (v := ?_) (a' := ?_) #[true, true, true, true, true, true, true, false, true, false, false] rfl rfl (by kernel_rfl) (fun _ _ _ h => h) (Or.inl ⟨by rfl, ?_⟩) ?_ ?_
          rotate_left
          · intro w'
            go_simp
            with_reducible rfl
          rotate_left
          · simp only [Act.put, List.setIfInBounds_toArray, List.set_cons_zero, List.set_cons_succ, i64_w, i32_w]
            rfl
          refine pure_ (i := 7) (N := some 16) (v := ?_) (a' := ?_) #[true, true, true, true, true, true, true, true, true, false, false] rfl rfl (by kernel_rfl) (fun _ _ _ h => h) (Or.inl ⟨by rfl, ?_⟩) ?_ ?_
          rotate_left
          · intro w'
            go_simp
            with_reducible rfl
          rotate_left
          · simp only [Act.put, List.setIfInBounds_toArray, List.set_cons_zero, List.set_cons_succ, i64_w, i32_w]
            rfl
          have hj := hJ _ _ ⟨P.out, V.out, NB.out, GE.out, ⟨NE0, NE1⟩, HB.out⟩
          simp only [putAll, Act.put, List.setIfInBounds_toArray, List.set_cons_zero, List.set_cons_succ, i64_w, i32_w] at hj
          exact hj
      · skip
        refine alloc_ (N := some 5) ?hw ?hN (M 0 0 (List.replicate 36 0)) 29 ?hr ?_
        case hw => rfl
        case hN => rfl
        case hr => first | (go_simp; done) | (go_simp; rfl)
        intro ga_ hg W_ NB_ hb
        have GE := Lib.hid ((by rw [hg]; exact below_size HB.out) : w.heap.size ≤ ga_)
        have NB := Lib.hid NB_
        have NE0 : gP ≠ ga_ := (by rw [hg]; exact Nat.ne_of_lt (Blk.lt P.out))
        have NE1 : gV ≠ ga_ := (by rw [hg]; exact Nat.ne_of_lt (Blk.lt V.out))
        have P_n := Lib.hid (Blk.below P.out hb)
        have V_n := Lib.hid (Blk.below V.out hb)
        have HB_n := Lib.hid (below_step HB.out hb)
        clear P
        have P := P_n
        clear P_n
        clear V
        have V := V_n
        clear V_n
        clear HB
        have HB := HB_n
        clear HB_n
        clear hb hg NB_
        refine hK.out _ _ ⟨P.out, V.out⟩ (fun hHeld => ?_)
        clear hK K
        refine norm_ (a' := ?_) ?_ ?_
        rotate_left
        · show Act.put _ (some 5) _ = _
          simp only [Act.put, List.setIfInBounds_toArray, List.set_cons_zero, List.set_cons_succ, i64_w, i32_w]
          rfl
        refine one_ (i := 3) (N := some 13) #[true, true, true, true, false, false, false, false, true, false, false] rfl rfl (by kernel_rfl) (by decide) (fun K hK => ?_)
        refine goes_ Try.func17 (by kernel_rfl) rfl #[.agg (B).toArray] (by rfl) rfl rfl (by (try simp only [List.map_toArray, List.map_cons, List.map_nil]); first | done | rfl) ?_
        with_reducible refine (HV.out _).mono ?_
        rintro e W_ ⟨rfl, hb⟩
        refine ⟨_, rfl, ?_⟩
        have P_n := Lib.hid (Blk.below P.out hb)
        have V_n := Lib.hid (Blk.below V.out hb)
        have NB_n := Lib.hid (Blk.below NB.out hb)
        have HB_n := Lib.hid (below_step HB.out hb)
        clear P
        have P := P_n
        clear P_n
        clear V
        have V := V_n
        clear V_n
        clear NB
        have NB := NB_n
        clear NB_n
        clear HB
        have HB := HB_n
        clear HB_n
        clear hb
        refine hK.out _ _ ⟨P.out, V.out⟩ (fun hHeld => ?_)
        clear hK K
        refine norm_ (a' := ?_) ?_ ?_
        rotate_left
        · show Act.put _ (some 13) _ = _
          simp only [Act.put, List.setIfInBounds_toArray, List.set_cons_zero, List.set_cons_succ, i64_w, i32_w]
          rfl
        refine one_ (i := 4) (N := some 14) #[true, true, true, true, true, false, false, false, true, false, false] rfl rfl (by kernel_rfl) (by decide) (fun K hK => ?_)
        refine goes_ Try.func25 (by kernel_rfl) rfl #[.agg (A).toArray, .agg (B).toArray] (by rfl) rfl rfl (by (try simp only [List.map_toArray, List.map_cons, List.map_nil]); first | done | rfl) ?_
        with_reducible refine (HS.out _).mono ?_
        rintro e W_ ⟨rfl, hb⟩
        refine ⟨_, rfl, ?_⟩
        have P_n := Lib.hid (Blk.below P.out hb)
        have V_n := Lib.hid (Blk.below V.out hb)
        have NB_n := Lib.hid (Blk.below NB.out hb)
        have HB_n := Lib.hid (below_step HB.out hb)
        clear P
        have P := P_n
        clear P_n
        clear V
        have V := V_n
        clear V_n
        clear NB
        have NB := NB_n
        clear NB_n
        clear HB
        have HB := HB_n
        clear HB_n
        clear hb
        refine hK.out _ _ ⟨P.out, V.out⟩ (fun hHeld => ?_)
        clear hK K
        refine norm_ (a' := ?_) ?_ ?_
        rotate_left
        · show Act.put _ (some 14) _ = _
          simp only [Act.put, List.setIfInBounds_toArray, List.set_cons_zero, List.set_cons_succ, i64_w, i32_w]
          rfl
        refine pure_ (i := 5) (N := some 9) (v := ?_) (a' := ?_) #[true, true, true, true, true, true, false, false, true, false, false] rfl rfl (by kernel_rfl) (fun _ _ _ h => h) (Or.inl ⟨by rfl, ?_⟩) ?_ ?_
        rotate_left
        · intro w'
          go_simp
          with_reducible rfl
        rotate_left
        · simp only [Act.put, List.setIfInBounds_toArray, List.set_cons_zero, List.set_cons_succ, i64_w, i32_w]
          rfl
        refine pure_ (i := 6) (N := some 15) (v := ?_) (a' := ?_) #[true, true, true, true, true, true, true, false, true, false, false] rfl rfl (by kernel_rfl) (fun _ _ _ h => h) (Or.inl ⟨by rfl, ?_⟩) ?_ ?_
        rotate_left
        · intro w'
          go_simp
          with_reducible rfl
        rotate_left
        · simp only [Act.put, List.setIfInBounds_toArray, List.set_cons_zero, List.set_cons_succ, i64_w, i32_w]
          rfl
        refine pure_ (i := 7) (N := some 16) (v := ?_) (a' := ?_) #[true, true, true, true, true, true, true, true, true, false, false] rfl rfl (by kernel_rfl) (fun _ _ _ h => h) (Or.inl ⟨by rfl, ?_⟩) ?_ ?_
        rotate_left
        · intro w'
          go_simp
          with_reducible rfl
        rotate_left
        · simp only [Act.put, List.setIfInBounds_toArray, List.set_cons_zero, List.set_cons_succ, i64_w, i32_w]
          rfl
        have hj := hJ _ _ ⟨P.out, V.out, NB.out, GE.out, ⟨NE0, NE1⟩, HB.out⟩
        simp only [putAll, Act.put, List.setIfInBounds_toArray, List.set_cons_zero, List.set_cons_succ, i64_w, i32_w] at hj
        exact hj
    · skip
      refine alloc_ (N := some 5) ?hw ?hN (M 0 0 (List.replicate 36 0)) 29 ?hr ?_
      case hw => rfl
      case hN => rfl
      case hr => first | (go_simp; done) | (go_simp; rfl)
      intro ga_ hg W_ NB_ hb
      have GE := Lib.hid ((by rw [hg]; exact below_size HB.out) : w.heap.size ≤ ga_)
      have NB := Lib.hid NB_
      have NE0 : gP ≠ ga_ := (by rw [hg]; exact Nat.ne_of_lt (Blk.lt P.out))
      have NE1 : gV ≠ ga_ := (by rw [hg]; exact Nat.ne_of_lt (Blk.lt V.out))
      have P_n := Lib.hid (Blk.below P.out hb)
      have V_n := Lib.hid (Blk.below V.out hb)
      have HB_n := Lib.hid (below_step HB.out hb)
      clear P
      have P := P_n
      clear P_n
      clear V
      have V := V_n
      clear V_n
      clear HB
      have HB := HB_n
      clear HB_n
      clear hb hg NB_
      refine hK.out _ _ ⟨P.out, V.out⟩ (fun hHeld => ?_)
      clear hK K
      refine norm_ (a' := ?_) ?_ ?_
      rotate_left
      · show Act.put _ (some 5) _ = _
        simp only [Act.put, List.setIfInBounds_toArray, List.set_cons_zero, List.set_cons_succ, i64_w, i32_w]
        rfl
      refine one_ (i := 1) (N := some 11) #[true, true, true, false, false, false, false, false, true, false, false] rfl rfl (by kernel_rfl) (by decide) (fun K hK => ?_)
      refine goes_ Try.func17 (by kernel_rfl) rfl #[.agg (A).toArray] (by rfl) rfl rfl (by (try simp only [List.map_toArray, List.map_cons, List.map_nil]); first | done | rfl) ?_
      with_reducible refine (HT.out _).mono ?_
      rintro e W_ ⟨rfl, hb⟩
      refine ⟨_, rfl, ?_⟩
      have P_n := Lib.hid (Blk.below P.out hb)
      have V_n := Lib.hid (Blk.below V.out hb)
      have NB_n := Lib.hid (Blk.below NB.out hb)
      have HB_n := Lib.hid (below_step HB.out hb)
      clear P
      have P := P_n
      clear P_n
      clear V
      have V := V_n
      clear V_n
      clear NB
      have NB := NB_n
      clear NB_n
      clear HB
      have HB := HB_n
      clear HB_n
      clear hb
      refine hK.out _ _ ⟨P.out, V.out⟩ (fun hHeld => ?_)
      clear hK K
      refine norm_ (a' := ?_) ?_ ?_
      rotate_left
      · show Act.put _ (some 11) _ = _
        simp only [Act.put, List.setIfInBounds_toArray, List.set_cons_zero, List.set_cons_succ, i64_w, i32_w]
        rfl
      refine one_ (i := 3) (N := some 13) #[true, true, true, true, false, false, false, false, true, false, false] rfl rfl (by kernel_rfl) (by decide) (fun K hK => ?_)
      refine goes_ Try.func17 (by kernel_rfl) rfl #[.agg (B).toArray] (by rfl) rfl rfl (by (try simp only [List.map_toArray, List.map_cons, List.map_nil]); first | done | rfl) ?_
      with_reducible refine (HV.out _).mono ?_
      rintro e W_ ⟨rfl, hb⟩
      refine ⟨_, rfl, ?_⟩
      have P_n := Lib.hid (Blk.below P.out hb)
      have V_n := Lib.hid (Blk.below V.out hb)
      have NB_n := Lib.hid (Blk.below NB.out hb)
      have HB_n := Lib.hid (below_step HB.out hb)
      clear P
      have P := P_n
      clear P_n
      clear V
      have V := V_n
      clear V_n
      clear NB
      have NB := NB_n
      clear NB_n
      clear HB
      have HB := HB_n
      clear HB_n
      clear hb
      refine hK.out _ _ ⟨P.out, V.out⟩ (fun hHeld => ?_)
      clear hK K
      refine norm_ (a' := ?_) ?_ ?_
      rotate_left
      · show Act.put _ (some 13) _ = _
        simp only [Act.put, List.setIfInBounds_toArray, List.set_cons_zero, List.set_cons_succ, i64_w, i32_w]
        rfl
      refine one_ (i := 4) (N := some 14) #[true, true, true, true, true, false, false, false, true, false, false] rfl rfl (by kernel_rfl) (by decide) (fun K hK => ?_)
      refine goes_ Try.func25 (by kernel_rfl) rfl #[.agg (A).toArray, .agg (B).toArray] (by rfl) rfl rfl (by (try simp only [List.map_toArray, List.map_cons, List.map_nil]); first | done | rfl) ?_
      with_reducible refine (HS.out _).mono ?_
      rintro e W_ ⟨rfl, hb⟩
      refine ⟨_, rfl, ?_⟩
      have P_n := Lib.hid (Blk.below P.out hb)
      have V_n := Lib.hid (Blk.below V.out hb)
      have NB_n := Lib.hid (Blk.below NB.out hb)
      have HB_n := Lib.hid (below_step HB.out hb)
      clear P
      have P := P_n
      clear P_n
      clear V
      have V := V_n
      clear V_n
      clear NB
      have NB := NB_n
      clear NB_n
      clear HB
      have HB := HB_n
      clear HB_n
      clear hb
      refine hK.out _ _ ⟨P.out, V.out⟩ (fun hHeld => ?_)
      clear hK K
      refine norm_ (a' := ?_) ?_ ?_
      rotate_left
      · show Act.put _ (some 14) _ = _
        simp only [Act.put, List.setIfInBounds_toArray, List.set_cons_zero, List.set_cons_succ, i64_w, i32_w]
        rfl
      refine pure_ (i := 5) (N := some 9) (v := ?_) (a' := ?_) #[true, true, true, true, true, true, false, false, true, false, false] rfl rfl (by kernel_rfl) (fun _ _ _ h => h) (Or.inl ⟨by rfl, ?_⟩) ?_ ?_
      rotate_left
      · intro w'
        go_simp
        with_reducible rfl
      rotate_left
      · simp only [Act.put, List.setIfInBounds_toArray, List.set_cons_zero, List.set_cons_succ, i64_w, i32_w]
        rfl
      refine pure_ (i := 6) (N := some 15) (v := ?_) (a' := ?_) #[true, true, true, true, true, true, true, false, true, false, false] rfl rfl (by kernel_rfl) (fun _ _ _ h => h) (Or.inl ⟨by rfl, ?_⟩) ?_ ?_
      rotate_left
      · intro w'
        go_simp
        with_reducible rfl
      rotate_left
      · simp only [Act.put, List.setIfInBounds_toArray, List.set_cons_zero, List.set_cons_succ, i64_w, i32_w]
        rfl
      refine pure_ (i := 7) (N := some 16) (v := ?_) (a' := ?_) #[true, true, true, true, true, true, true, true, true, false, false] rfl rfl (by kernel_rfl) (fun _ _ _ h => h) (Or.inl ⟨by rfl, ?_⟩) ?_ ?_
      rotate_left
      · intro w'
        go_simp
        with_reducible rfl
      rotate_left
      · simp only [Act.put, List.setIfInBounds_toArray, List.set_cons_zero, List.set_cons_succ, i64_w, i32_w]
        rfl
      have hj := hJ _ _ ⟨P.out, V.out, NB.out, GE.out, ⟨NE0, NE1⟩, HB.out⟩
      simp only [putAll, Act.put, List.setIfInBounds_toArray, List.set_cons_zero, List.set_cons_succ, i64_w, i32_w] at hj
      exact hj
  intro gR WR_ ⟨P_, V_, R_, GR, ⟨NERP, NERV⟩, HB_⟩
  clear P V HB hHeld
  have P := Lib.hid P_
  have V := Lib.hid V_
  have R := Lib.hid R_
  have HB := Lib.hid HB_
  clear P_ V_ R_ HB_
  refine norm_ (a' := ?_) ?_ ?_
  rotate_left
  · simp only [putAll, Act.put, List.setIfInBounds_toArray, List.set_cons_zero, List.set_cons_succ, i64_w, i32_w]
    rfl
  refine last_ (i := 9) (N := none) #[true, true, true, true, true, true, true, true, true, true, false] rfl rfl (by kernel_rfl) (by decide) (fun K hK => ?_)
  refine ststore_ ?hw 29 5 (.tmp 15) ?ho ?hN gR ?hx (D) ?hy 29 (M 0 0 (List.replicate 36 0)) R.out ID.out (LD.out.trans (by rfl)) OD.out ?_
  case hw => rfl
  case ho => rfl
  case hN => rfl
  case hx => rfl
  case hy => rfl
  intro XR hbk hfar hbel
  have P_n := Lib.hid (Blk.other P.out hfar NERP)
  have V_n := Lib.hid (Blk.other V.out hfar NERV)
  have HB_n := Lib.hid (hbel _ _ HB.out GR)
  have R_n := Lib.hid (hbk)
  clear P
  have P := P_n
  clear P_n
  clear V
  have V := V_n
  clear V_n
  clear HB
  have HB := HB_n
  clear HB_n
  clear R
  have R := R_n
  clear R_n
  clear hbk hfar hbel
  refine hK.out _ _ ?_
  clear hK K
  refine pure_ (i := 10) (N := some 6) (v := ?_) (a' := ?_) #[true, true, true, true, true, true, true, true, true, true, true] rfl rfl (by kernel_rfl) (fun _ _ _ h => h) (Or.inl ⟨by rfl, ?_⟩) ?_ ?_
  rotate_left
  · intro w'
    go_simp
    with_reducible rfl
  rotate_left
  · simp only [Act.put, List.setIfInBounds_toArray, List.set_cons_zero, List.set_cons_succ, i64_w, i32_w]
    rfl
  refine done_ (by kernel_rfl) ?_
  go_wp2
  have P_n := Lib.hid (Blk.drew P.out)
  have V_n := Lib.hid (Blk.drew V.out)
  have R_n := Lib.hid (Blk.drew R.out)
  have HB_n := Lib.hid (below_drew HB.out)
  clear P
  have P := P_n
  clear P_n
  clear V
  have V := V_n
  clear V_n
  clear R
  have R := R_n
  clear R_n
  clear HB
  have HB := HB_n
  clear HB_n
  refine start_ (n := 11) (S := fun w' => Blk w' gP 40 (A) ∧ Blk w' gV 40 (B)) (ds := [9]) #[false, false, false, false, false, false, false, false, false, false, false] (by kernel_rfl) rfl rfl ⟨P.out, V.out⟩ (fun hHeld => ?_)
  generalize XR.drew = W2 at P V R HB hHeld ⊢
  refine take_ (i := 0) (N := some 18) (v := ?_) (a' := ?_) #[true, false, false, false, false, false, false, false, false, false, false] rfl rfl (by kernel_rfl) (fun _ _ _ h => h) (Or.inl ⟨by rfl, ?_⟩) hHeld ?_ ?_
  rotate_left
  · rintro w' ⟨s0, s1⟩
    refine yl_ 40 (.tmp 2) ?ho gP ?hx 40 (A) _ s0 Try.underlying40 rfl IA.out
    case ho => rfl
    case hx => rfl
  rotate_left
  · simp only [Act.put, List.setIfInBounds_toArray, List.set_cons_zero, List.set_cons_succ, i64_w, i32_w]
    rfl
  refine take_ (i := 2) (N := some 20) (v := ?_) (a' := ?_) #[true, false, true, false, false, false, false, false, false, false, false] rfl rfl (by kernel_rfl) (fun _ _ _ h => h) (Or.inl ⟨by rfl, ?_⟩) hHeld ?_ ?_
  rotate_left
  · rintro w' ⟨s0, s1⟩
    refine yl_ 40 (.tmp 3) ?ho gV ?hx 40 (B) _ s1 Try.underlying40 rfl IB.out
    case ho => rfl
    case hx => rfl
  rotate_left
  · simp only [Act.put, List.setIfInBounds_toArray, List.set_cons_zero, List.set_cons_succ, i64_w, i32_w]
    rfl
  refine join_ (σ := Nat) 2 #[true, true, true, true, true, true, true, true, true, false, false] (fun g_ => [(19, .agg (A).toArray), (21, .agg (B).toArray), (22, .tuple #[.agg (D).toArray, .int .i64 e0]), (17, .tuple #[.agg (D).toArray, .int .i64 e0]), (23, .agg (D).toArray), (24, .int .i64 e0), (7, .pointer (some ⟨g_, 0, none⟩))]) (fun g_ w' => Blk w' gP 40 (A) ∧ Blk w' gV 40 (B) ∧ Blk w' gR 29 (D) ∧ Blk w' g_ 29 (M 0 0 (List.replicate 36 0)) ∧ w.heap.size ≤ g_ ∧ (gP ≠ g_ ∧ gV ≠ g_ ∧ gR ≠ g_) ∧ Below w.heap.size w w') ?_ ?_
  rotate_left
  · intro hJ
    refine two_ (i := 1) (j := 8) (Ni := some 19) (Nj := some 7) #[true, true, true, false, false, false, false, false, false, false, false] #[true, false, true, false, false, false, false, false, true, false, false] rfl rfl rfl rfl (by kernel_rfl) (by decide) (by decide) (fun K hK => ?_) (fun K hK => ?_)
    · skip
      refine goes_ Try.func17 (by kernel_rfl) rfl #[.agg (A).toArray] (by rfl) rfl rfl (by (try simp only [List.map_toArray, List.map_cons, List.map_nil]); first | done | rfl) ?_
      with_reducible refine (HT.out _).mono ?_
      rintro e W_ ⟨rfl, hb⟩
      refine ⟨_, rfl, ?_⟩
      have P_n := Lib.hid (Blk.below P.out hb)
      have V_n := Lib.hid (Blk.below V.out hb)
      have R_n := Lib.hid (Blk.below R.out hb)
      have HB_n := Lib.hid (below_step HB.out hb)
      clear P
      have P := P_n
      clear P_n
      clear V
      have V := V_n
      clear V_n
      clear R
      have R := R_n
      clear R_n
      clear HB
      have HB := HB_n
      clear HB_n
      clear hb
      refine hK.out _ _ ⟨P.out, V.out⟩ (fun hHeld => ?_)
      clear hK K
      refine norm_ (a' := ?_) ?_ ?_
      rotate_left
      · show Act.put _ (some 19) _ = _
        simp only [Act.put, List.setIfInBounds_toArray, List.set_cons_zero, List.set_cons_succ, i64_w, i32_w]
        rfl
      refine two_ (i := 3) (j := 8) (Ni := some 21) (Nj := some 7) #[true, true, true, true, false, false, false, false, false, false, false] #[true, true, true, false, false, false, false, false, true, false, false] rfl rfl rfl rfl (by kernel_rfl) (by decide) (by decide) (fun K hK => ?_) (fun K hK => ?_)
      · skip
        refine goes_ Try.func17 (by kernel_rfl) rfl #[.agg (B).toArray] (by rfl) rfl rfl (by (try simp only [List.map_toArray, List.map_cons, List.map_nil]); first | done | rfl) ?_
        with_reducible refine (HV.out _).mono ?_
        rintro e W_ ⟨rfl, hb⟩
        refine ⟨_, rfl, ?_⟩
        have P_n := Lib.hid (Blk.below P.out hb)
        have V_n := Lib.hid (Blk.below V.out hb)
        have R_n := Lib.hid (Blk.below R.out hb)
        have HB_n := Lib.hid (below_step HB.out hb)
        clear P
        have P := P_n
        clear P_n
        clear V
        have V := V_n
        clear V_n
        clear R
        have R := R_n
        clear R_n
        clear HB
        have HB := HB_n
        clear HB_n
        clear hb
        refine hK.out _ _ ⟨P.out, V.out⟩ (fun hHeld => ?_)
        clear hK K
        refine norm_ (a' := ?_) ?_ ?_
        rotate_left
        · show Act.put _ (some 21) _ = _
          simp only [Act.put, List.setIfInBounds_toArray, List.set_cons_zero, List.set_cons_succ, i64_w, i32_w]
          rfl
        refine two_ (i := 4) (j := 8) (Ni := some 22) (Nj := some 7) #[true, true, true, true, true, false, false, false, false, false, false] #[true, true, true, true, false, false, false, false, true, false, false] rfl rfl rfl rfl (by kernel_rfl) (by decide) (by decide) (fun K hK => ?_) (fun K hK => ?_)
        · skip
          refine goes_ Try.func26 (by kernel_rfl) rfl #[.agg (A).toArray, .agg (B).toArray] (by rfl) rfl rfl (by (try simp only [List.map_toArray, List.map_cons, List.map_nil]); first | done | rfl) ?_
          with_reducible refine (HI.out _).mono ?_
          rintro e W_ ⟨rfl, hb⟩
          refine ⟨_, rfl, ?_⟩
          have P_n := Lib.hid (Blk.below P.out hb)
          have V_n := Lib.hid (Blk.below V.out hb)
          have R_n := Lib.hid (Blk.below R.out hb)
          have HB_n := Lib.hid (below_step HB.out hb)
          clear P
          have P := P_n
          clear P_n
          clear V
          have V := V_n
          clear V_n
          clear R
          have R := R_n
          clear R_n
          clear HB
          have HB := HB_n
          clear HB_n
          clear hb
          refine hK.out _ _ ⟨P.out, V.out⟩ (fun hHeld => ?_)
          clear hK K
          refine norm_ (a' := ?_) ?_ ?_
          rotate_left
          · show Act.put _ (some 22) _ = _
            simp only [Act.put, List.setIfInBounds_toArray, List.set_cons_zero, List.set_cons_succ, i64_w, i32_w]
            rfl
          refine pure_ (i := 5) (N := some 17) (v := ?_) (a' := ?_) #[true, true, true, true, true, true, false, false, false, false, false] rfl rfl (by kernel_rfl) (fun _ _ _ h => h) (Or.inl ⟨by rfl, ?_⟩) ?_ ?_
          rotate_left
          · intro w'
            go_simp
            with_reducible rfl
          rotate_left
          · simp only [Act.put, List.setIfInBounds_toArray, List.set_cons_zero, List.set_cons_succ, i64_w, i32_w]
            rfl
          refine pure_ (i := 6) (N := some 23) (v := ?_) (a' := ?_) #[true, true, true, true, true, true, true, false, false, false, false] rfl rfl (by kernel_rfl) (fun _ _ _ h => h) (Or.inl ⟨by rfl, ?_⟩) ?_ ?_
          rotate_left
          · intro w'
            go_simp
            with_reducible rfl
          rotate_left
          · simp only [Act.put, List.setIfInBounds_toArray, List.set_cons_zero, List.set_cons_succ, i64_w, i32_w]
            rfl
          refine pure_ (i := 7) (N := some 24) (v := ?_) (a' := ?_) #[true, true, true, true, true, true, true, true, false, false, false] rfl rfl (by kernel_rfl) (fun _ _ _ h => h) (Or.inl ⟨by rfl, ?_⟩) ?_ ?_
          rotate_left
          · intro w'
            go_simp
            with_reducible rfl
          rotate_left
          · simp only [Act.put, List.setIfInBounds_toArray, List.set_cons_zero, List.set_cons_succ, i64_w, i32_w]
            rfl
          refine one_ (i := 8) (N := some 7) #[true, true, true, true, true, true, true, true, true, false, false] rfl rfl (by kernel_rfl) (by decide) (fun K hK => ?_)
          refine alloc_ (N := some 7) ?hw ?hN (M 0 0 (List.replicate 36 0)) 29 ?hr ?_
          case hw => rfl
          case hN => rfl
          case hr => first | (go_simp; done) | (go_simp; rfl)
          intro ga_ hg W_ NB_ hb
          have GE := Lib.hid ((by rw [hg]; exact below_size HB.out) : w.heap.size ≤ ga_)
          have NB := Lib.hid NB_
          have NE0 : gP ≠ ga_ := (by rw [hg]; exact Nat.ne_of_lt (Blk.lt P.out))
          have NE1 : gV ≠ ga_ := (by rw [hg]; exact Nat.ne_of_lt (Blk.lt V.out))
          have NE2 : gR ≠ ga_ := (by rw [hg]; exact Nat.ne_of_lt (Blk.lt R.out))
          have P_n := Lib.hid (Blk.below P.out hb)
          have V_n := Lib.hid (Blk.below V.out hb)
          have R_n := Lib.hid (Blk.below R.out hb)
          have HB_n := Lib.hid (below_step HB.out hb)
          clear P
          have P := P_n
          clear P_n
          clear V
          have V := V_n
          clear V_n
          clear R
          have R := R_n
          clear R_n
          clear HB
          have HB := HB_n
          clear HB_n
          clear hb hg NB_
          refine hK.out _ _ ⟨P.out, V.out⟩ (fun hHeld => ?_)
          clear hK K
          refine norm_ (a' := ?_) ?_ ?_
          rotate_left
          · show Act.put _ (some 7) _ = _
            simp only [Act.put, List.setIfInBounds_toArray, List.set_cons_zero, List.set_cons_succ, i64_w, i32_w]
            rfl
          have hj := hJ _ _ ⟨P.out, V.out, R.out, NB.out, GE.out, ⟨NE0, NE1, NE2⟩, HB.out⟩
          simp only [putAll, Act.put, List.setIfInBounds_toArray, List.set_cons_zero, List.set_cons_succ, i64_w, i32_w] at hj
          exact hj
        · skip
          refine alloc_ (N := some 7) ?hw ?hN (M 0 0 (List.replicate 36 0)) 29 ?hr ?_
          case hw => rfl
          case hN => rfl
          case hr => first | (go_simp; done) | (go_simp; rfl)
          intro ga_ hg W_ NB_ hb
          have GE := Lib.hid ((by rw [hg]; exact below_size HB.out) : w.heap.size ≤ ga_)
          have NB := Lib.hid NB_
          have NE0 : gP ≠ ga_ := (by rw [hg]; exact Nat.ne_of_lt (Blk.lt P.out))
          have NE1 : gV ≠ ga_ := (by rw [hg]; exact Nat.ne_of_lt (Blk.lt V.out))
          have NE2 : gR ≠ ga_ := (by rw [hg]; exact Nat.ne_of_lt (Blk.lt R.out))
          have P_n := Lib.hid (Blk.below P.out hb)
          have V_n := Lib.hid (Blk.below V.out hb)
          have R_n := Lib.hid (Blk.below R.out hb)
          have HB_n := Lib.hid (below_step HB.out hb)
          clear P
          have P := P_n
          clear P_n
          clear V
          have V := V_n
          clear V_n
          clear R
          have R := R_n
          clear R_n
          clear HB
          have HB := HB_n
          clear HB_n
          clear hb hg NB_
          refine hK.out _ _ ⟨P.out, V.out⟩ (fun hHeld => ?_)
          clear hK K
          refine norm_ (a' := ?_) ?_ ?_
          rotate_left
          · show Act.put _ (some 7) _ = _
            simp only [Act.put, List.setIfInBounds_toArray, List.set_cons_zero, List.set_cons_succ, i64_w, i32_w]
            rfl
          refine one_ (i := 4) (N := some 22) #[true, true, true, true, true, false, false, false, true, false, false] rfl rfl (by kernel_rfl) (by decide) (fun K hK => ?_)
          refine goes_ Try.func26 (by kernel_rfl) rfl #[.agg (A).toArray, .agg (B).toArray] (by rfl) rfl rfl (by (try simp only [List.map_toArray, List.map_cons, List.map_nil]); first | done | rfl) ?_
          with_reducible refine (HI.out _).mono ?_
          rintro e W_ ⟨rfl, hb⟩
          refine ⟨_, rfl, ?_⟩
          have P_n := Lib.hid (Blk.below P.out hb)
          have V_n := Lib.hid (Blk.below V.out hb)
          have R_n := Lib.hid (Blk.below R.out hb)
          have NB_n := Lib.hid (Blk.below NB.out hb)
          have HB_n := Lib.hid (below_step HB.out hb)
          clear P
          have P := P_n
          clear P_n
          clear V
          have V := V_n
          clear V_n
          clear R
          have R := R_n
          clear R_n
          clear NB
          have NB := NB_n
          clear NB_n
          clear HB
          have HB := HB_n
          clear HB_n
          clear hb
          refine hK.out _ _ ⟨P.out, V.out⟩ (fun hHeld => ?_)
          clear hK K
          refine norm_ (a' := ?_) ?_ ?_
          rotate_left
          · show Act.put _ (some 22) _ = _
            simp only [Act.put, List.setIfInBounds_toArray, List.set_cons_zero, List.set_cons_succ, i64_w, i32_w]
            rfl
          refine pure_ (i := 5) (N := some 17) (v := ?_) (a' := ?_) #[true, true, true, true, true, true, false, false, true, false, false] rfl rfl (by kernel_rfl) (fun _ _ _ h => h) (Or.inl ⟨by rfl, ?_⟩) ?_ ?_
          rotate_left
          · intro w'
            go_simp
            with_reducible rfl
          rotate_left
          · simp only [Act.put, List.setIfInBounds_toArray, List.set_cons_zero, List.set_cons_succ, i64_w, i32_w]
            rfl
          refine pure_ (i := 6) (N := some 23) (v := ?_) (a' := ?_) #[true, true, true, true, true, true, true, false, true, false, false] rfl rfl (by kernel_rfl) (fun _ _ _ h => h) (Or.inl ⟨by rfl, ?_⟩) ?_ ?_
          rotate_left
          · intro w'
            go_simp
            with_reducible rfl
          rotate_left
          · simp only [Act.put, List.setIfInBounds_toArray, List.set_cons_zero, List.set_cons_succ, i64_w, i32_w]
            rfl
          refine pure_ (i := 7) (N := some 24) (v := ?_) (a' := ?_) #[true, true, true, true, true, true, true, true, true, false, false] rfl rfl (by kernel_rfl) (fun _ _ _ h => h) (Or.inl ⟨by rfl, ?_⟩) ?_ ?_
          rotate_left
          · intro w'
            go_simp
            with_reducible rfl
          rotate_left
          · simp only [Act.put, List.setIfInBounds_toArray, List.set_cons_zero, List.set_cons_succ, i64_w, i32_w]
            rfl
          have hj := hJ _ _ ⟨P.out, V.out, R.out, NB.out, GE.out, ⟨NE0, NE1, NE2⟩, HB.out⟩
          simp only [putAll, Act.put, List.setIfInBounds_toArray, List.set_cons_zero, List.set_cons_succ, i64_w, i32_w] at hj
          exact hj
      · skip
        refine alloc_ (N := some 7) ?hw ?hN (M 0 0 (List.replicate 36 0)) 29 ?hr ?_
        case hw => rfl
        case hN => rfl
        case hr => first | (go_simp; done) | (go_simp; rfl)
        intro ga_ hg W_ NB_ hb
        have GE := Lib.hid ((by rw [hg]; exact below_size HB.out) : w.heap.size ≤ ga_)
        have NB := Lib.hid NB_
        have NE0 : gP ≠ ga_ := (by rw [hg]; exact Nat.ne_of_lt (Blk.lt P.out))
        have NE1 : gV ≠ ga_ := (by rw [hg]; exact Nat.ne_of_lt (Blk.lt V.out))
        have NE2 : gR ≠ ga_ := (by rw [hg]; exact Nat.ne_of_lt (Blk.lt R.out))
        have P_n := Lib.hid (Blk.below P.out hb)
        have V_n := Lib.hid (Blk.below V.out hb)
        have R_n := Lib.hid (Blk.below R.out hb)
        have HB_n := Lib.hid (below_step HB.out hb)
        clear P
        have P := P_n
        clear P_n
        clear V
        have V := V_n
        clear V_n
        clear R
        have R := R_n
        clear R_n
        clear HB
        have HB := HB_n
        clear HB_n
        clear hb hg NB_
        refine hK.out _ _ ⟨P.out, V.out⟩ (fun hHeld => ?_)
        clear hK K
        refine norm_ (a' := ?_) ?_ ?_
        rotate_left
        · show Act.put _ (some 7) _ = _
          simp only [Act.put, List.setIfInBounds_toArray, List.set_cons_zero, List.set_cons_succ, i64_w, i32_w]
          rfl
        refine one_ (i := 3) (N := some 21) #[true, true, true, true, false, false, false, false, true, false, false] rfl rfl (by kernel_rfl) (by decide) (fun K hK => ?_)
        refine goes_ Try.func17 (by kernel_rfl) rfl #[.agg (B).toArray] (by rfl) rfl rfl (by (try simp only [List.map_toArray, List.map_cons, List.map_nil]); first | done | rfl) ?_
        with_reducible refine (HV.out _).mono ?_
        rintro e W_ ⟨rfl, hb⟩
        refine ⟨_, rfl, ?_⟩
        have P_n := Lib.hid (Blk.below P.out hb)
        have V_n := Lib.hid (Blk.below V.out hb)
        have R_n := Lib.hid (Blk.below R.out hb)
        have NB_n := Lib.hid (Blk.below NB.out hb)
        have HB_n := Lib.hid (below_step HB.out hb)
        clear P
        have P := P_n
        clear P_n
        clear V
        have V := V_n
        clear V_n
        clear R
        have R := R_n
        clear R_n
        clear NB
        have NB := NB_n
        clear NB_n
        clear HB
        have HB := HB_n
        clear HB_n
        clear hb
        refine hK.out _ _ ⟨P.out, V.out⟩ (fun hHeld => ?_)
        clear hK K
        refine norm_ (a' := ?_) ?_ ?_
        rotate_left
        · show Act.put _ (some 21) _ = _
          simp only [Act.put, List.setIfInBounds_toArray, List.set_cons_zero, List.set_cons_succ, i64_w, i32_w]
          rfl
        refine one_ (i := 4) (N := some 22) #[true, true, true, true, true, false, false, false, true, false, false] rfl rfl (by kernel_rfl) (by decide) (fun K hK => ?_)
        refine goes_ Try.func26 (by kernel_rfl) rfl #[.agg (A).toArray, .agg (B).toArray] (by rfl) rfl rfl (by (try simp only [List.map_toArray, List.map_cons, List.map_nil]); first | done | rfl) ?_
        with_reducible refine (HI.out _).mono ?_
        rintro e W_ ⟨rfl, hb⟩
        refine ⟨_, rfl, ?_⟩
        have P_n := Lib.hid (Blk.below P.out hb)
        have V_n := Lib.hid (Blk.below V.out hb)
        have R_n := Lib.hid (Blk.below R.out hb)
        have NB_n := Lib.hid (Blk.below NB.out hb)
        have HB_n := Lib.hid (below_step HB.out hb)
        clear P
        have P := P_n
        clear P_n
        clear V
        have V := V_n
        clear V_n
        clear R
        have R := R_n
        clear R_n
        clear NB
        have NB := NB_n
        clear NB_n
        clear HB
        have HB := HB_n
        clear HB_n
        clear hb
        refine hK.out _ _ ⟨P.out, V.out⟩ (fun hHeld => ?_)
        clear hK K
        refine norm_ (a' := ?_) ?_ ?_
        rotate_left
        · show Act.put _ (some 22) _ = _
          simp only [Act.put, List.setIfInBounds_toArray, List.set_cons_zero, List.set_cons_succ, i64_w, i32_w]
          rfl
        refine pure_ (i := 5) (N := some 17) (v := ?_) (a' := ?_) #[true, true, true, true, true, true, false, false, true, false, false] rfl rfl (by kernel_rfl) (fun _ _ _ h => h) (Or.inl ⟨by rfl, ?_⟩) ?_ ?_
        rotate_left
        · intro w'
          go_simp
          with_reducible rfl
        rotate_left
        · simp only [Act.put, List.setIfInBounds_toArray, List.set_cons_zero, List.set_cons_succ, i64_w, i32_w]
          rfl
        refine pure_ (i := 6) (N := some 23) (v := ?_) (a' := ?_) #[true, true, true, true, true, true, true, false, true, false, false] rfl rfl (by kernel_rfl) (fun _ _ _ h => h) (Or.inl ⟨by rfl, ?_⟩) ?_ ?_
        rotate_left
        · intro w'
          go_simp
          with_reducible rfl
        rotate_left
        · simp only [Act.put, List.setIfInBounds_toArray, List.set_cons_zero, List.set_cons_succ, i64_w, i32_w]
          rfl
        refine pure_ (i := 7) (N := some 24) (v := ?_) (a' := ?_) #[true, true, true, true, true, true, true, true, true, false, false] rfl rfl (by kernel_rfl) (fun _ _ _ h => h) (Or.inl ⟨by rfl, ?_⟩) ?_ ?_
        rotate_left
        · intro w'
          go_simp
          with_reducible rfl
        rotate_left
        · simp only [Act.put, List.setIfInBounds_toArray, List.set_cons_zero, List.set_cons_succ, i64_w, i32_w]
          rfl
        have hj := hJ _ _ ⟨P.out, V.out, R.out, NB.out, GE.out, ⟨NE0, NE1, NE2⟩, HB.out⟩
        simp only [putAll, Act.put, List.setIfInBounds_toArray, List.set_cons_zero, List.set_cons_succ, i64_w, i32_w] at hj
        exact hj
    · skip
      refine alloc_ (N := some 7) ?hw ?hN (M 0 0 (List.replicate 36 0)) 29 ?hr ?_
      case hw => rfl
      case hN => rfl
      case hr => first | (go_simp; done) | (go_simp; rfl)
      intro ga_ hg W_ NB_ hb
      have GE := Lib.hid ((by rw [hg]; exact below_size HB.out) : w.heap.size ≤ ga_)
      have NB := Lib.hid NB_
      have NE0 : gP ≠ ga_ := (by rw [hg]; exact Nat.ne_of_lt (Blk.lt P.out))
      have NE1 : gV ≠ ga_ := (by rw [hg]; exact Nat.ne_of_lt (Blk.lt V.out))
      have NE2 : gR ≠ ga_ := (by rw [hg]; exact Nat.ne_of_lt (Blk.lt R.out))
      have P_n := Lib.hid (Blk.below P.out hb)
      have V_n := Lib.hid (Blk.below V.out hb)
      have R_n := Lib.hid (Blk.below R.out hb)
      have HB_n := Lib.hid (below_step HB.out hb)
      clear P
      have P := P_n
      clear P_n
      clear V
      have V := V_n
      clear V_n
      clear R
      have R := R_n
      clear R_n
      clear HB
      have HB := HB_n
      clear HB_n
      clear hb hg NB_
      refine hK.out _ _ ⟨P.out, V.out⟩ (fun hHeld => ?_)
      clear hK K
      refine norm_ (a' := ?_) ?_ ?_
      rotate_left
      · show Act.put _ (some 7) _ = _
        simp only [Act.put, List.setIfInBounds_toArray, List.set_cons_zero, List.set_cons_succ, i64_w, i32_w]
        rfl
      refine one_ (i := 1) (N := some 19) #[true, true, true, false, false, false, false, false, true, false, false] rfl rfl (by kernel_rfl) (by decide) (fun K hK => ?_)
      refine goes_ Try.func17 (by kernel_rfl) rfl #[.agg (A).toArray] (by rfl) rfl rfl (by (try simp only [List.map_toArray, List.map_cons, List.map_nil]); first | done | rfl) ?_
      with_reducible refine (HT.out _).mono ?_
      rintro e W_ ⟨rfl, hb⟩
      refine ⟨_, rfl, ?_⟩
      have P_n := Lib.hid (Blk.below P.out hb)
      have V_n := Lib.hid (Blk.below V.out hb)
      have R_n := Lib.hid (Blk.below R.out hb)
      have NB_n := Lib.hid (Blk.below NB.out hb)
      have HB_n := Lib.hid (below_step HB.out hb)
      clear P
      have P := P_n
      clear P_n
      clear V
      have V := V_n
      clear V_n
      clear R
      have R := R_n
      clear R_n
      clear NB
      have NB := NB_n
      clear NB_n
      clear HB
      have HB := HB_n
      clear HB_n
      clear hb
      refine hK.out _ _ ⟨P.out, V.out⟩ (fun hHeld => ?_)
      clear hK K
      refine norm_ (a' := ?_) ?_ ?_
      rotate_left
      · show Act.put _ (some 19) _ = _
        simp only [Act.put, List.setIfInBounds_toArray, List.set_cons_zero, List.set_cons_succ, i64_w, i32_w]
        rfl
      refine one_ (i := 3) (N := some 21) #[true, true, true, true, false, false, false, false, true, false, false] rfl rfl (by kernel_rfl) (by decide) (fun K hK => ?_)
      refine goes_ Try.func17 (by kernel_rfl) rfl #[.agg (B).toArray] (by rfl) rfl rfl (by (try simp only [List.map_toArray, List.map_cons, List.map_nil]); first | done | rfl) ?_
      with_reducible refine (HV.out _).mono ?_
      rintro e W_ ⟨rfl, hb⟩
      refine ⟨_, rfl, ?_⟩
      have P_n := Lib.hid (Blk.below P.out hb)
      have V_n := Lib.hid (Blk.below V.out hb)
      have R_n := Lib.hid (Blk.below R.out hb)
      have NB_n := Lib.hid (Blk.below NB.out hb)
      have HB_n := Lib.hid (below_step HB.out hb)
      clear P
      have P := P_n
      clear P_n
      clear V
      have V := V_n
      clear V_n
      clear R
      have R := R_n
      clear R_n
      clear NB
      have NB := NB_n
      clear NB_n
      clear HB
      have HB := HB_n
      clear HB_n
      clear hb
      refine hK.out _ _ ⟨P.out, V.out⟩ (fun hHeld => ?_)
      clear hK K
      refine norm_ (a' := ?_) ?_ ?_
      rotate_left
      · show Act.put _ (some 21) _ = _
        simp only [Act.put, List.setIfInBounds_toArray, List.set_cons_zero, List.set_cons_succ, i64_w, i32_w]
        rfl
      refine one_ (i := 4) (N := some 22) #[true, true, true, true, true, false, false, false, true, false, false] rfl rfl (by kernel_rfl) (by decide) (fun K hK => ?_)
      refine goes_ Try.func26 (by kernel_rfl) rfl #[.agg (A).toArray, .agg (B).toArray] (by rfl) rfl rfl (by (try simp only [List.map_toArray, List.map_cons, List.map_nil]); first | done | rfl) ?_
      with_reducible refine (HI.out _).mono ?_
      rintro e W_ ⟨rfl, hb⟩
      refine ⟨_, rfl, ?_⟩
      have P_n := Lib.hid (Blk.below P.out hb)
      have V_n := Lib.hid (Blk.below V.out hb)
      have R_n := Lib.hid (Blk.below R.out hb)
      have NB_n := Lib.hid (Blk.below NB.out hb)
      have HB_n := Lib.hid (below_step HB.out hb)
      clear P
      have P := P_n
      clear P_n
      clear V
      have V := V_n
      clear V_n
      clear R
      have R := R_n
      clear R_n
      clear NB
      have NB := NB_n
      clear NB_n
      clear HB
      have HB := HB_n
      clear HB_n
      clear hb
      refine hK.out _ _ ⟨P.out, V.out⟩ (fun hHeld => ?_)
      clear hK K
      refine norm_ (a' := ?_) ?_ ?_
      rotate_left
      · show Act.put _ (some 22) _ = _
        simp only [Act.put, List.setIfInBounds_toArray, List.set_cons_zero, List.set_cons_succ, i64_w, i32_w]
        rfl
      refine pure_ (i := 5) (N := some 17) (v := ?_) (a' := ?_) #[true, true, true, true, true, true, false, false, true, false, false] rfl rfl (by kernel_rfl) (fun _ _ _ h => h) (Or.inl ⟨by rfl, ?_⟩) ?_ ?_
      rotate_left
      · intro w'
        go_simp
        with_reducible rfl
      rotate_left
      · simp only [Act.put, List.setIfInBounds_toArray, List.set_cons_zero, List.set_cons_succ, i64_w, i32_w]
        rfl
      refine pure_ (i := 6) (N := some 23) (v := ?_) (a' := ?_) #[true, true, true, true, true, true, true, false, true, false, false] rfl rfl (by kernel_rfl) (fun _ _ _ h => h) (Or.inl ⟨by rfl, ?_⟩) ?_ ?_
      rotate_left
      · intro w'
        go_simp
        with_reducible rfl
      rotate_left
      · simp only [Act.put, List.setIfInBounds_toArray, List.set_cons_zero, List.set_cons_succ, i64_w, i32_w]
        rfl
      refine pure_ (i := 7) (N := some 24) (v := ?_) (a' := ?_) #[true, true, true, true, true, true, true, true, true, false, false] rfl rfl (by kernel_rfl) (fun _ _ _ h => h) (Or.inl ⟨by rfl, ?_⟩) ?_ ?_
      rotate_left
      · intro w'
        go_simp
        with_reducible rfl
      rotate_left
      · simp only [Act.put, List.setIfInBounds_toArray, List.set_cons_zero, List.set_cons_succ, i64_w, i32_w]
        rfl
      have hj := hJ _ _ ⟨P.out, V.out, R.out, NB.out, GE.out, ⟨NE0, NE1, NE2⟩, HB.out⟩
      simp only [putAll, Act.put, List.setIfInBounds_toArray, List.set_cons_zero, List.set_cons_succ, i64_w, i32_w] at hj
      exact hj
  intro gT WT_ ⟨P_, V_, R_, T_, GT, ⟨NETP, NETV, NETR⟩, HB_⟩
  clear P V R HB hHeld
  have P := Lib.hid P_
  have V := Lib.hid V_
  have R := Lib.hid R_
  have T := Lib.hid T_
  have HB := Lib.hid HB_
  clear P_ V_ R_ T_ HB_
  refine norm_ (a' := ?_) ?_ ?_
  rotate_left
  · simp only [putAll, Act.put, List.setIfInBounds_toArray, List.set_cons_zero, List.set_cons_succ, i64_w, i32_w]
    rfl
  refine last_ (i := 9) (N := none) #[true, true, true, true, true, true, true, true, true, true, false] rfl rfl (by kernel_rfl) (by decide) (fun K hK => ?_)
  refine ststore_ ?hw 29 7 (.tmp 23) ?ho ?hN gT ?hx (D) ?hy 29 (M 0 0 (List.replicate 36 0)) T.out ID.out (LD.out.trans (by rfl)) OD.out ?_
  case hw => rfl
  case ho => rfl
  case hN => rfl
  case hx => rfl
  case hy => rfl
  intro XT hbk hfar hbel
  have P_n := Lib.hid (Blk.other P.out hfar NETP)
  have V_n := Lib.hid (Blk.other V.out hfar NETV)
  have R_n := Lib.hid (Blk.other R.out hfar NETR)
  have HB_n := Lib.hid (hbel _ _ HB.out GT)
  have T_n := Lib.hid (hbk)
  clear P
  have P := P_n
  clear P_n
  clear V
  have V := V_n
  clear V_n
  clear R
  have R := R_n
  clear R_n
  clear HB
  have HB := HB_n
  clear HB_n
  clear T
  have T := T_n
  clear T_n
  clear hbk hfar hbel
  refine hK.out _ _ ?_
  clear hK K
  refine pure_ (i := 10) (N := some 8) (v := ?_) (a' := ?_) #[true, true, true, true, true, true, true, true, true, true, true] rfl rfl (by kernel_rfl) (fun _ _ _ h => h) (Or.inl ⟨by rfl, ?_⟩) ?_ ?_
  rotate_left
  · intro w'
    go_simp
    with_reducible rfl
  rotate_left
  · simp only [Act.put, List.setIfInBounds_toArray, List.set_cons_zero, List.set_cons_succ, i64_w, i32_w]
    rfl
  refine done_ (by kernel_rfl) ?_
  go_wp2_with (first
    | ((with_reducible refine wpList_ldall rfl 29 (.tmp 7) rfl gT ?hx 29 (D) _ ?hB Try.underlying29 rfl ?hi ?_); (case hx => rfl); (case hB => exact (by (with_reducible repeat (first | apply Blk.alloc | apply Blk.drewN | apply Blk.drew)); exact T.out)); (case hi => exact ID.out))
    | ((with_reducible refine wpList_ldall rfl 29 (.tmp 5) rfl gR ?hx 29 (D) _ ?hB Try.underlying29 rfl ?hi ?_); (case hx => rfl); (case hB => exact (by (with_reducible repeat (first | apply Blk.alloc | apply Blk.drewN | apply Blk.drew)); exact R.out)); (case hi => exact ID.out))
    | (go_at_call 14; (with_reducible refine (HE.out _).mono ?_); rintro e W_ ⟨rfl, hb⟩; have HB_n := Lib.hid (below_step (w := w) (by repeat (first | (with_reducible first | exact HB.out | apply below_alloc | apply pw_below_drewN | apply below_drew) | exact HB.out)) hb); clear HB; have HB := HB_n; clear HB_n; clear hb))
  go_ret
  exact ⟨rfl, (by repeat (first | (with_reducible first | exact HB.out | apply below_alloc | apply pw_below_drewN | apply below_drew) | exact HB.out))⟩

end Go.Proofs.Ythjbeglmdifhdaa.Given
