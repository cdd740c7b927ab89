/- Walks of functions that the print does not take. -/
import Derived.Test.YthjbeglmdifhdaaProg
import Derived.Below
import Derived.Deep.Draws
import Derived.Deep.AppendLies
import Derived.Maps.AppendAt
import Derived.OwnWalk
import Derived.Laws.BytesArg
import Derived.Laws.MakeOwn
import Derived.Laws.OwnMore
import Derived.Deep.OwnRows
import Derived.Tactics
import Derived.Lib.ConvBytes
import Derived.Laws.Slices
import Derived.WalkKit
import Derived.KernelRfl
import Derived.RowKit3
import Derived.Deep.LoopGhost
import Derived.Deep.QuietTactic
import Derived.BigQuiet
import Derived.WideLaws
import Derived.Deep.DeepCutAuto
import Derived.Deep.CutBlock
import Derived.Deep.RegionHeld3
import Derived.Laws.Rows
import Derived.Lib.AppendStr
import Derived.ArgAppend
import Derived.Laws.IdiomCopy
import Derived.OrdersHeld
import Derived.Laws.BitsLemmas
import Derived.RowKit
import Derived.Lib.Hide
import Derived.WalkSpells
import Derived.Test.YthjbeglmdifhdaaWWords
import Derived.Test.YthjbeglmdifhdaaWLast
import Derived.Test.YthjbeglmdifhdaaWTab
import Derived.Test.YthjbeglmdifhdaaWFour
import Derived.Test.YthjbeglmdifhdaaWQPut
import Derived.Test.YthjbeglmdifhdaaWApart
import Derived.Test.YthjbeglmdifhdaaWArr
import Derived.Test.YthjbeglmdifhdaaWZeros
import Derived.Test.YthjbeglmdifhdaaWFoot
import Derived.Test.YthjbeglmdifhdaaWKept
import Derived.Test.YthjbeglmdifhdaaWShare
import Derived.Test.YthjbeglmdifhdaaWN
import Derived.Test.YthjbeglmdifhdaaWFootNe
import Derived.Test.YthjbeglmdifhdaaWAt
import Derived.Test.YthjbeglmdifhdaaWEqStruct
import Derived.Test.YthjbeglmdifhdaaWRepsOne
import Derived.Test.YthjbeglmdifhdaaWInv
import Derived.Test.YthjbeglmdifhdaaWInvWords
import Derived.Test.YthjbeglmdifhdaaWGuard
import Derived.Test.YthjbeglmdifhdaaWNEv
import Derived.Test.YthjbeglmdifhdaaWMore
import Derived.Test.YthjbeglmdifhdaaN1
import Derived.Test.YthjbeglmdifhdaaMI
import Derived.Test.YthjbeglmdifhdaaPlainFnExactPowersMatrix
namespace Go.Proofs.Ythjbeglmdifhdaa.Given
open Go.RowKit Go.Proofs.YthjbeglmdifhdaaW.PrintWords Go.Proofs.YthjbeglmdifhdaaW.PrintLast Go.Proofs.YthjbeglmdifhdaaW.PrintMore Go.Proofs.Ythjbeglmdifhdaa.NimF Go.Proofs.Ythjbeglmdifhdaa.NimGo
set_option linter.unusedVariables false
set_option linter.unusedSimpArgs false
open Go.Proofs.Ythjbeglmdifhdaa.RFnExactPowersMatrix Go.Proofs.Ythjbeglmdifhdaa.Pure
/-- a power, by one factor after the other -/
def pw (x : Int) : Nat → Int
  | 0 => 1
  | n + 1 => tm (pw x n) x
theorem pw_npow (x : Int) : ∀ n, pw x n = ((npow x.toNat n : Nat) : Int)
  | 0 => rfl
  | n + 1 => by
    show tm (pw x n) x = _
    rw [pw_npow x n]
    unfold tm
    rw [Int.toNat_natCast]
    rfl
theorem pw16 (x : Int) (n : Nat) : w16 (pw x n) := by
  rw [pw_npow]
  exact ⟨Int.natCast_nonneg _, by have := npow_lt x.toNat n; omega⟩
theorem power_calls {x : Int} (hx : w16 x) (n : Nat) (hn : n ≤ 6) (w : World) : Calls Try.prog 41 #[.int .u16 x, .int .i64 (n : Int)] w fun e w' => e = .returned (.int .u16 (pw x n)) ∧ Drawn0 w w' := by
  obtain ⟨K, v, hv, _, hk⟩ := ipow (a := x.toNat) (n := n) (m := (n : Int)) rfl (by have := hx.2; have := hx.1; omega) (by omega)
  have e : ((x.toNat : Nat) : Int) = x := Int.toNat_of_nonneg hx.1
  rw [e] at hk
  rw [pw_npow, ← hv]
  exact impl_power.calls K x (n : Int) (v : Int) w (hk K (Nat.le_refl _))
/-- the cells that are filled already -/
def fl (F : Nat → Nat → Int) (C i j : Nat) : List Int := (List.range 36).map fun q => if (q / 6 < i ∧ q % 6 < C) ∨ (q / 6 = i ∧ q % 6 < j) then F (q / 6) (q % 6) else 0
theorem fl_length (F : Nat → Nat → Int) (C i j : Nat) : (fl F C i j).length = 36 := by simp [fl]
theorem fl_get (F : Nat → Nat → Int) (C i j : Nat) {q : Nat} (hq : q < 36) : (fl F C i j)[q]? = some (if (q / 6 < i ∧ q % 6 < C) ∨ (q / 6 = i ∧ q % 6 < j) then F (q / 6) (q % 6) else 0) := by
  unfold fl
  rw [List.getElem?_map, List.getElem?_range hq]
  rfl
theorem fl_zero (F : Nat → Nat → Int) (C : Nat) : fl F C 0 0 = List.replicate 36 0 := by
  refine ext_len (by rw [fl_length, List.length_replicate]) (fun q hq => ?_)
  rw [fl_length] at hq
  rw [fl_get _ _ _ _ hq, List.getElem?_replicate, if_pos hq, if_neg (by omega)]
theorem fl_set (F : Nat → Nat → Int) (C i j : Nat) (hi : i < 6) (hj : j < 6) : (fl F C i j).set (i * 6 + j) (F i j) = fl F C i (j + 1) := by
  refine ext_len (by rw [List.length_set, fl_length, fl_length]) (fun q hq => ?_)
  rw [List.length_set, fl_length] at hq
  rw [fl_get F C i (j + 1) hq, List.getElem?_set]
  by_cases e : i * 6 + j = q
  · subst e
    have e1 : (i * 6 + j) / 6 = i := by omega
    have e2 : (i * 6 + j) % 6 = j := by omega
    rw [if_pos rfl, if_pos (by rw [fl_length]; exact hq), if_pos (by omega), e1, e2]
  · rw [if_neg e, fl_get F C i j hq]
    by_cases h : (q / 6 < i ∧ q % 6 < C) ∨ (q / 6 = i ∧ q % 6 < j)
    · rw [if_pos h, if_pos (by omega)]
    · rw [if_neg h, if_neg (by omega)]
theorem fl_row (F : Nat → Nat → Int) (C i : Nat) : fl F C i C = fl F C (i + 1) 0 := by
  refine ext_len (by rw [fl_length, fl_length]) (fun q hq => ?_)
  rw [fl_length] at hq
  rw [fl_get _ _ _ _ hq, fl_get _ _ _ _ hq]
  by_cases h : (q / 6 < i ∧ q % 6 < C) ∨ (q / 6 = i ∧ q % 6 < C)
  · rw [if_pos h, if_pos (by omega)]
  · rw [if_neg h, if_neg (by omega)]
def pmF (xs : List Int) (i j : Nat) : Int := pw (xs.getD i 0) j
def pmR (xs : List Int) (k : Int) : Value := if inB (xs.length : Int) 1 6 = true ∧ inB k 1 6 = true then .tuple #[.agg (M (xs.length : Int) k (fl (pmF xs) k.toNat xs.length 0)).toArray, .int .i64 0] else .tuple #[.agg (M 0 0 (List.replicate 36 0)).toArray, .int .i64 2]
theorem pmRes (xs : List Int) (k : Int) : ∃ (R C : Int) (L : List Int) (e : Int), L.length = 36 ∧ pmR xs k = .tuple #[.agg (M R C L).toArray, .int .i64 e] := by
  unfold pmR
  split
  · exact ⟨_, _, _, _, fl_length _ _ _ _, rfl⟩
  · exact ⟨_, _, _, _, List.length_replicate, rfl⟩

set_option maxHeartbeats 16000000 in
set_option maxRecDepth 100000 in
theorem specPowers_calls (A : Option Addr) (cp : Nat) (xs : List Int) (k : Int) (w : World) (hr : Kd.C (Kd.int .u16) w A xs.length xs) (hc : xs.length ≤ cp) (hx : W16 xs) :
    Calls Try.prog 11 #[.slice A xs.length cp, .int .i64 k] w fun e w' => e = .returned (pmR xs k) ∧ Below w.heap.size w w' := by
  have HR := Lib.hid hr
  have HX := Lib.hid hx
  have HLn : xs.length ≤ 9223372036854775807 := hr.2.1
  have HLi : (xs.length : Int) ≤ 9223372036854775807 := by omega
  have HL0 : (0 : Int) ≤ (xs.length : Int) := by omega
  have HB := Lib.hid (Below.refl w.heap.size w)
  have t1 : True := trivial
  have t2 : True := trivial
  unfold pmR
  obtain ⟨v1, e1⟩ : ∃ v, inB (xs.length : Int) 1 6 = v := ⟨_, rfl⟩
  obtain ⟨v2, e2⟩ : ∃ v, inB k 1 6 = v := ⟨_, rfl⟩
  have E1 := Lib.hid (fun W => e1 ▸ sin_calls (xs.length : Int) 1 6 W)
  have E2 := Lib.hid (fun W => e2 ▸ sin_calls k 1 6 W)
  have I1 := Lib.hid e1
  have I2 := Lib.hid e2
  rw [e1, e2]
  clear e1 e2 hr hx
  cases v1 with
  | false =>
    rw [if_neg (by simp)]
    go_enter Try.func11, Try.ntmps11
    go_wp2_with (first
    | ((with_reducible refine gate_dst (N := 4) rfl ?_); refine box_event ?hg (N := 4) ?hd (cs := (M 0 0 (List.replicate 36 0)).toArray) (t := 29) ?hr ?_; (case hd => rfl); (case hg => rfl); (case hr => first | (go_simp; done) | (go_simp; rfl)); intro gr hg Wr hbox hb; have GWr := Lib.hid ((by rw [hg]; exact below_size (w := w) (by repeat (first | (with_reducible first | exact HB.out | apply below_alloc | apply pw_below_drewN | apply below_drew) | exact HB.out))) : w.heap.size ≤ gr); have HB_n := Lib.hid (below_step (w := w) (by repeat (first | (with_reducible first | exact HB.out | apply below_alloc | apply pw_below_drewN | apply below_drew) | exact HB.out)) hb); clear HB; have HB := HB_n; clear HB_n; have BKr := Lib.hid (show Blk Wr gr 29 (M 0 0 (List.replicate 36 0)) from hbox); clear hbox hg hb)
    | (go_at_call 38; have _t := t1; (with_reducible refine (E1.out _).mono ?_); rintro e w1 ⟨rfl, rfl⟩; clear _t t1)
    | ((with_reducible refine wpList_stall rfl 29 4 _ rfl rfl gr ?hx (M 0 0 (List.replicate 36 0)) ?hy 29 (M 0 0 (List.replicate 36 0)) ?hB ?hi ?hf (M_one _ _ _) ?_); (case hx => rfl); (case hy => rfl); (case hB => exact (by (with_reducible repeat (first | apply Blk.alloc | apply Blk.drewN | apply Blk.drew)); exact BKr.out)); (case hi => rw [M_length, List.length_replicate]; exact inf29); (case hf => rfl); intro W_ hbk hfar hbel; have HB_n := Lib.hid (hbel _ _ (by repeat (first | (with_reducible first | exact HB.out | apply below_alloc | apply pw_below_drewN | apply below_drew) | exact HB.out)) GWr.out); have BKr_n := Lib.hid (hbk); clear HB; have HB := HB_n; clear HB_n; clear BKr; have BKr := BKr_n; clear BKr_n; clear hbk hfar hbel))
    exact bodyPost_ret (results_ct Try.results11 _ _ gr 29 _ (0, 0) _ rfl BKr.out Try.underlying29 rfl inf29) rfl ⟨rfl, HB.out⟩
  | true =>
  cases v2 with
  | false =>
    rw [if_neg (by simp)]
    go_enter Try.func11, Try.ntmps11
    go_wp2_with (first
    | ((with_reducible refine gate_dst (N := 4) rfl ?_); refine box_event ?hg (N := 4) ?hd (cs := (M 0 0 (List.replicate 36 0)).toArray) (t := 29) ?hr ?_; (case hd => rfl); (case hg => rfl); (case hr => first | (go_simp; done) | (go_simp; rfl)); intro gr hg Wr hbox hb; have GWr := Lib.hid ((by rw [hg]; exact below_size (w := w) (by repeat (first | (with_reducible first | exact HB.out | apply below_alloc | apply pw_below_drewN | apply below_drew) | exact HB.out))) : w.heap.size ≤ gr); have HB_n := Lib.hid (below_step (w := w) (by repeat (first | (with_reducible first | exact HB.out | apply below_alloc | apply pw_below_drewN | apply below_drew) | exact HB.out)) hb); clear HB; have HB := HB_n; clear HB_n; have BKr := Lib.hid (show Blk Wr gr 29 (M 0 0 (List.replicate 36 0)) from hbox); clear hbox hg hb)
    | (go_at_call 38; have _t := t1; (with_reducible refine (E1.out _).mono ?_); rintro e w1 ⟨rfl, rfl⟩; clear _t t1)
    | (go_at_call 38; have _t := t2; (with_reducible refine (E2.out _).mono ?_); rintro e w1 ⟨rfl, rfl⟩; clear _t t2)
    | ((with_reducible refine wpList_stall rfl 29 4 _ rfl rfl gr ?hx (M 0 0 (List.replicate 36 0)) ?hy 29 (M 0 0 (List.replicate 36 0)) ?hB ?hi ?hf (M_one _ _ _) ?_); (case hx => rfl); (case hy => rfl); (case hB => exact (by (with_reducible repeat (first | apply Blk.alloc | apply Blk.drewN | apply Blk.drew)); exact BKr.out)); (case hi => rw [M_length, List.length_replicate]; exact inf29); (case hf => rfl); intro W_ hbk hfar hbel; have HB_n := Lib.hid (hbel _ _ (by repeat (first | (with_reducible first | exact HB.out | apply below_alloc | apply pw_below_drewN | apply below_drew) | exact HB.out)) GWr.out); have BKr_n := Lib.hid (hbk); clear HB; have HB := HB_n; clear HB_n; clear BKr; have BKr := BKr_n; clear BKr_n; clear hbk hfar hbel))
    exact bodyPost_ret (results_ct Try.results11 _ _ gr 29 _ (0, 0) _ rfl BKr.out Try.underlying29 rfl inf29) rfl ⟨rfl, HB.out⟩
  | true =>
    rw [if_pos ⟨rfl, rfl⟩]
    have q1 : 1 ≤ (xs.length : Int) := (of_decide_eq_true I1.out).1
    have q2 : (xs.length : Int) ≤ 6 := (of_decide_eq_true I1.out).2
    have q3 : 1 ≤ k := (of_decide_eq_true I2.out).1
    have q4 : k ≤ 6 := (of_decide_eq_true I2.out).2
    obtain ⟨C, rfl⟩ := Int.eq_ofNat_of_zero_le (show 0 ≤ k by omega)
    rw [Int.toNat_natCast]
    obtain ⟨ad, eA, _⟩ := Kd.at_int HR.out (0 : Int) (by omega) (by omega)
    subst eA
    obtain ⟨R, hRx⟩ : ∃ R, R = xs.length := ⟨_, rfl⟩
    have HRC : Hid (R ≤ 6 ∧ C ≤ 6 ∧ R = xs.length) := Lib.hid (by omega)
    rw [← hRx] at HR E1 hc q1 q2 HLn HLi HL0 ⊢
    clear hRx I1 I2
    go_enter Try.func11, Try.ntmps11
    go_wp2_with (first
    | ((with_reducible refine gate_dst (N := 4) rfl ?_); refine box_event ?hg (N := 4) ?hd (cs := (M 0 0 (List.replicate 36 0)).toArray) (t := 29) ?hr ?_; (case hd => rfl); (case hg => rfl); (case hr => first | (go_simp; done) | (go_simp; rfl)); intro gr hg Wr hbox hb; have GWr := Lib.hid ((by rw [hg]; exact below_size (w := w) (by repeat (first | (with_reducible first | exact HB.out | apply below_alloc | apply pw_below_drewN | apply below_drew) | exact HB.out))) : w.heap.size ≤ gr); have HB_n := Lib.hid (below_step (w := w) (by repeat (first | (with_reducible first | exact HB.out | apply below_alloc | apply pw_below_drewN | apply below_drew) | exact HB.out)) hb); clear HB; have HB := HB_n; clear HB_n; have BKr := Lib.hid (show Blk Wr gr 29 (M 0 0 (List.replicate 36 0)) from hbox); clear hbox hg hb)
    | (go_at_call 38; have _t := t1; (with_reducible refine (E1.out _).mono ?_); rintro e w1 ⟨rfl, rfl⟩; clear _t t1)
    | (go_at_call 38; have _t := t2; (with_reducible refine (E2.out _).mono ?_); rintro e w1 ⟨rfl, rfl⟩; clear _t t2)
    | ((with_reducible refine gate_dst (N := 7) rfl ?_); refine box_event ?hg (N := 7) ?hd (cs := (M 0 0 (List.replicate 36 0)).toArray) (t := 29) ?hr ?_; (case hd => rfl); (case hg => rfl); (case hr => first | (go_simp; done) | (go_simp; rfl)); intro go hg Wo hbox hb; have GWo := Lib.hid ((by rw [hg]; exact below_size (w := w) (by repeat (first | (with_reducible first | exact HB.out | apply below_alloc | apply pw_below_drewN | apply below_drew) | exact HB.out))) : w.heap.size ≤ go); have NEro : gr ≠ go := (by rw [hg]; exact Nat.ne_of_lt (Blk.lt (by (with_reducible repeat (first | apply Blk.alloc | apply Blk.drewN | apply Blk.drew)); exact BKr.out))); have NEor : go ≠ gr := NEro.symm; have BKr_n := Lib.hid (Blk.below (by (with_reducible repeat (first | apply Blk.alloc | apply Blk.drewN | apply Blk.drew)); exact BKr.out) hb); have HB_n := Lib.hid (below_step (w := w) (by repeat (first | (with_reducible first | exact HB.out | apply below_alloc | apply pw_below_drewN | apply below_drew) | exact HB.out)) hb); clear BKr; have BKr := BKr_n; clear BKr_n; clear HB; have HB := HB_n; clear HB_n; have BKo := Lib.hid (show Blk Wo go 29 (M 0 0 (List.replicate 36 0)) from hbox); clear hbox hg hb)
    | ((with_reducible refine wpList_stall rfl 29 7 _ rfl rfl go ?hx (M R C (List.replicate 36 0)) ?hy 29 (M 0 0 (List.replicate 36 0)) ?hB ?hi ?hf (M_one _ _ _) ?_); (case hx => rfl); (case hy => rfl); (case hB => exact (by (with_reducible repeat (first | apply Blk.alloc | apply Blk.drewN | apply Blk.drew)); exact BKo.out)); (case hi => rw [M_length, List.length_replicate]; exact inf29); (case hf => rfl); intro W_ hbk hfar hbel; have BKr_n := Lib.hid (Blk.other (by (with_reducible repeat (first | apply Blk.alloc | apply Blk.drewN | apply Blk.drew)); exact BKr.out) hfar NEro); have HB_n := Lib.hid (hbel _ _ (by repeat (first | (with_reducible first | exact HB.out | apply below_alloc | apply pw_below_drewN | apply below_drew) | exact HB.out)) GWo.out); have BKo_n := Lib.hid (hbk); clear BKr; have BKr := BKr_n; clear BKr_n; clear HB; have HB := HB_n; clear HB_n; clear BKo; have BKo := BKo_n; clear BKo_n; clear hbk hfar hbel))
    go_loopg [8] R (fun gg v6 wr => ∃ i : Nat, Hid (i ≤ R) ∧ Hid (R - i ≤ gg) ∧ v6 = .int .i64 (i : Int) ∧ Hid (Blk wr gr 29 (M 0 0 (List.replicate 36 0))) ∧ Hid (Blk wr go 29 (M R C (fl (pmF xs) C i 0))) ∧ Hid (Below w.heap.size w wr))
    case atStart => exact ⟨0, Lib.hid (Nat.zero_le _), Lib.hid (Nat.sub_le _ _), rfl, BKr, Lib.hid (by rw [fl_zero]; exact BKo.out), HB⟩
    case round =>
        clear HB BKr BKo
        obtain ⟨i, hn, hg, rfl, BKr, BKo, HB⟩ := hrel
        by_cases hlt : i < R
        · skip
          have ib0 : decide ((i : Int) < (R : Int)) = true := decide_eq_true (by omega)
          have ib1 : (i : Int) < (R : Int) := by omega
          have ib2 : (i : Int) < 6 := by have := HRC.out; omega
          have ii0 : (0 : Int) ≤ (i : Int) := by omega
          have iib : i < 9223372036854775807 := by have := HRC.out; omega
          have HAT : Hid (∀ W, Below w.heap.size w W → W.cell? (ad.add i) = some (.int .u16 (xs.getD i 0))) := Lib.hid (fun W hW => by
            obtain ⟨ad2, e2, hx⟩ := Kd.at_int (Kd.C_below HR.out hW) (i : Int) (by omega) (by have := HRC.out; omega)
            cases e2
            rw [rd_nat, Int.toNat_natCast] at hx
            exact hx)
          have HXx : Hid (w16 (xs.getD i 0)) := Lib.hid (HX.out.at_ (by have := HRC.out; omega))
          obtain ⟨x, ex⟩ : ∃ x, xs.getD i 0 = x := ⟨_, rfl⟩
          rw [ex] at HAT HXx
          have HXE := Lib.hid ex
          have HNi := Lib.hid hlt
          have HGi := Lib.hid hg.out
          clear hlt hn hg ex
          go_wp2
          go_loopg [9, 10] C (fun gg v9 v7 wq => ∃ j : Nat, Hid (j ≤ C) ∧ Hid (C - j ≤ gg) ∧ v9 = .int .u16 (pw x j) ∧ v7 = .int .i64 (j : Int) ∧ Hid (Blk wq gr 29 (M 0 0 (List.replicate 36 0))) ∧ Hid (Blk wq go 29 (M R C (fl (pmF xs) C i j))) ∧ Hid (Below w.heap.size w wq))
          case atStart => exact ⟨0, Lib.hid (Nat.zero_le _), Lib.hid (Nat.sub_le _ _), rfl, rfl, BKr, BKo, HB⟩
          case round =>
            clear HB BKr BKo
            obtain ⟨j, hn, hg, rfl, rfl, BKr, BKo, HB⟩ := hrel
            by_cases hlt : j < C
            · skip
              have jb0 : decide ((j : Int) < (C : Int)) = true := decide_eq_true (by omega)
              have jb1 : (j : Int) < (C : Int) := by omega
              have jb2 : (j : Int) < 6 := by have := HRC.out; omega
              have ji0 : (0 : Int) ≤ (j : Int) := by omega
              have jib : j < 9223372036854775807 := by have := HRC.out; omega
              have hi6 : i < 6 := by have := HRC.out; have := HNi.out; omega
              have hj6 : j < 6 := by have := HRC.out; have := hlt; omega
              have hd := (BKo.out.cell (i * 6 + j + 2)).trans (M_get (by rw [fl_length]; omega))
              rw [show i * 6 + j + 2 = 2 + i * 6 + j by omega] at hd
              have hf := BKo.out.frozen (2 + i * 6 + j)
              generalize (fl (pmF xs) C i j).getD (i * 6 + j) 0 = y at hd
              have TS := Lib.hid (fl_set (pmF xs) C i j hi6 hj6)
              rw [show pmF xs i j = pw x j by rw [← HXE.out]; rfl] at TS
              have TP : Hid (pw x (j + 1) = tm (pw x j) x) := Lib.hid rfl
              have H1 := Lib.hid (pw16 x j)
              generalize pw x j = d at TS TP H1 ⊢
              have HNj := Lib.hid hlt
              have HGj := Lib.hid hg.out
              have tX : True := trivial
              clear hlt hn hg hi6 hj6
              go_wp2_with (first
                | ((with_reducible refine gate_dst (N := 48) rfl ?_); have _t := tX; have BKo_n := Lib.hid (show Blk (wr.setCell ⟨go, 2 + i * 6 + j, none⟩ (.int .u16 d)) go 29 _ from BKo.out.set (2 + i * 6 + j) (.int .u16 d)); have BKr_n := Lib.hid (show Blk (wr.setCell ⟨go, 2 + i * 6 + j, none⟩ (.int .u16 d)) gr 29 _ from BKr.out.far NEro _ _); have HB_n := Lib.hid (show Below w.heap.size w (wr.setCell ⟨go, 2 + i * 6 + j, none⟩ (.int .u16 d)) from below_set HB.out GWo.out); generalize (wr.setCell ⟨go, 2 + i * 6 + j, none⟩ (.int .u16 d)) = W1 at BKo_n BKr_n HB_n ⊢; clear BKo BKr HB hf hd; have BKo := BKo_n; have BKr := BKr_n; have HB := HB_n; clear BKo_n BKr_n HB_n; have hx := (HAT.out W1 HB.out); clear _t tX)
                | (go_at_call 39; (with_reducible refine (stm_calls H1.out HXx.out _).mono ?_); rintro e w' ⟨rfl, ⟨nd, rfl⟩⟩))
              go_roundg (C - (j + 1))
              case measure => have := HGj.out; have := HNj.out; omega
              case rel => exact ⟨j + 1, Lib.hid HNj.out, Lib.hid (Nat.le_refl _), by rw [TP.out], by first | rfl | go_num, Lib.hid (BKr.out.drewN _), Lib.hid (by have := BKo.out.drewN nd; rw [show 2 + i * 6 + j = i * 6 + j + 2 by omega, M_set, TS.out] at this; exact this), Lib.hid (pw_below_drewN HB.out _)⟩
            · have en : j = C := by have := hn.out; omega
              subst en
              have jb0 : decide ((j : Int) < (j : Int)) = false := decide_eq_false (by omega)
              clear hn hg hlt
              go_wp2
              go_roundg (R - (i + 1))
              case measure => have := HGi.out; have := HNi.out; omega
              case rel => exact ⟨i + 1, Lib.hid HNi.out, Lib.hid (Nat.le_refl _), by first | rfl | go_num, BKr, Lib.hid (by rw [← fl_row]; exact BKo.out), HB⟩
        · have en : i = R := by have := hn.out; omega
          subst en
          have ib0 : decide ((i : Int) < (i : Int)) = false := decide_eq_false (by omega)
          clear hn hg hlt
          go_wp2_with (first
      | ((with_reducible refine wpList_ldall rfl 29 (.tmp 7) rfl go ?hx 29 (M i C (fl (pmF xs) C i 0)) _ ?hB Try.underlying29 rfl ?hi ?_); (case hx => rfl); (case hB => exact (by (with_reducible repeat (first | apply Blk.alloc | apply Blk.drewN | apply Blk.drew)); exact BKo.out)); (case hi => rw [M_length, fl_length]; exact inf29))
      | ((with_reducible refine wpList_stall rfl 29 4 _ rfl rfl gr ?hx (M i C (fl (pmF xs) C i 0)) ?hy 29 (M 0 0 (List.replicate 36 0)) ?hB ?hi ?hf (M_one _ _ _) ?_); (case hx => rfl); (case hy => rfl); (case hB => exact (by (with_reducible repeat (first | apply Blk.alloc | apply Blk.drewN | apply Blk.drew)); exact BKr.out)); (case hi => rw [M_length, fl_length]; exact inf29); (case hf => rw [M_length, fl_length]; rfl); intro W_ hbk hfar hbel; have BKo_n := Lib.hid (Blk.other (by (with_reducible repeat (first | apply Blk.alloc | apply Blk.drewN | apply Blk.drew)); exact BKo.out) hfar NEor); have HB_n := Lib.hid (hbel _ _ (by repeat (first | (with_reducible first | exact HB.out | apply below_alloc | apply pw_below_drewN | apply below_drew) | exact HB.out)) GWr.out); have BKr_n := Lib.hid (hbk); clear BKo; have BKo := BKo_n; clear BKo_n; clear HB; have HB := HB_n; clear HB_n; clear BKr; have BKr := BKr_n; clear BKr_n; clear hbk hfar hbel))
          exact bodyPost_ret (results_ct Try.results11 _ _ gr 29 _ (0, 0) _ rfl BKr.out Try.underlying29 rfl (by simp only [List.size_toArray]; rw [M_length, fl_length]; exact inf29)) rfl ⟨rfl, HB.out⟩
  
end Go.Proofs.Ythjbeglmdifhdaa.Given
