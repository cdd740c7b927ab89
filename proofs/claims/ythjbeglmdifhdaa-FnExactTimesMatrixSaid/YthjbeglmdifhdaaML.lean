/- Walks of functions that the print does not take. -/
import Derived.Test.YthjbeglmdifhdaaProg
import Derived.Below
import Derived.Deep.Draws
import Derived.Deep.AppendLies
import Derived.Maps.AppendAt
import Derived.OwnWalk
import Derived.Laws.BytesArg
import Derived.Laws.MakeOwn
import Derived.Laws.OwnMore
import Derived.Deep.OwnRows
import Derived.Tactics
import Derived.Lib.ConvBytes
import Derived.Laws.Slices
import Derived.WalkKit
import Derived.KernelRfl
import Derived.RowKit3
import Derived.Deep.LoopGhost
import Derived.Deep.QuietTactic
import Derived.BigQuiet
import Derived.WideLaws
import Derived.Deep.DeepCutAuto
import Derived.Deep.CutBlock
import Derived.Deep.RegionHeld3
import Derived.Laws.Rows
import Derived.Lib.AppendStr
import Derived.ArgAppend
import Derived.Laws.IdiomCopy
import Derived.OrdersHeld
import Derived.Laws.BitsLemmas
import Derived.RowKit
import Derived.Lib.Hide
import Derived.WalkSpells
import Derived.Test.YthjbeglmdifhdaaWWords
import Derived.Test.YthjbeglmdifhdaaWLast
import Derived.Test.YthjbeglmdifhdaaWTab
import Derived.Test.YthjbeglmdifhdaaWFour
import Derived.Test.YthjbeglmdifhdaaWQPut
import Derived.Test.YthjbeglmdifhdaaWApart
import Derived.Test.YthjbeglmdifhdaaWArr
import Derived.Test.YthjbeglmdifhdaaWZeros
import Derived.Test.YthjbeglmdifhdaaWFoot
import Derived.Test.YthjbeglmdifhdaaWKept
import Derived.Test.YthjbeglmdifhdaaWShare
import Derived.Test.YthjbeglmdifhdaaWN
import Derived.Test.YthjbeglmdifhdaaWFootNe
import Derived.Test.YthjbeglmdifhdaaWAt
import Derived.Test.YthjbeglmdifhdaaWEqStruct
import Derived.Test.YthjbeglmdifhdaaWRepsOne
import Derived.Test.YthjbeglmdifhdaaWInv
import Derived.Test.YthjbeglmdifhdaaWInvWords
import Derived.Test.YthjbeglmdifhdaaWGuard
import Derived.Test.YthjbeglmdifhdaaWNEv
import Derived.Test.YthjbeglmdifhdaaWMore
import Derived.Test.YthjbeglmdifhdaaN1
import Derived.Test.YthjbeglmdifhdaaMJ
namespace Go.Proofs.Ythjbeglmdifhdaa.Given
open Go.RowKit Go.Proofs.YthjbeglmdifhdaaW.PrintWords Go.Proofs.YthjbeglmdifhdaaW.PrintLast Go.Proofs.YthjbeglmdifhdaaW.PrintMore Go.Proofs.Ythjbeglmdifhdaa.NimF Go.Proofs.Ythjbeglmdifhdaa.NimGo
set_option linter.unusedVariables false
set_option linter.unusedSimpArgs false
/-- a row times a column, the first so many -/
def dm (l m : List Int) (i j : Nat) : Nat → Int
  | 0 => 0
  | k + 1 => Go.bits .xor .u16 (dm l m i j k) (tm (l.getD (i * 6 + k) 0) (m.getD (k * 6 + j) 0))
/-- the product: the rows ahead, and the columns ahead in the row -/
def mmS (l m : List Int) (K C i j : Nat) : List Int := (List.range 36).map fun q => if (q / 6 < i ∧ q % 6 < C) ∨ (q / 6 = i ∧ q % 6 < j) then dm l m (q / 6) (q % 6) K else 0
theorem mmS_length (l m : List Int) (K C i j : Nat) : (mmS l m K C i j).length = 36 := by simp [mmS]
theorem mmS_get (l m : List Int) (K C i j : Nat) {q : Nat} (hq : q < 36) : (mmS l m K C i j)[q]? = some (if (q / 6 < i ∧ q % 6 < C) ∨ (q / 6 = i ∧ q % 6 < j) then dm l m (q / 6) (q % 6) K else 0) := by
  unfold mmS
  rw [List.getElem?_map, List.getElem?_range hq]
  rfl
theorem mmS_zero (l m : List Int) (K C : Nat) : mmS l m K C 0 0 = List.replicate 36 0 := by
  refine ext_len (by rw [mmS_length, List.length_replicate]) (fun q hq => ?_)
  rw [mmS_length] at hq
  rw [mmS_get _ _ _ _ _ _ hq, List.getElem?_replicate, if_pos hq, if_neg (by omega)]
theorem mmS_set (l m : List Int) (K C i j : Nat) (hi : i < 6) (hj : j < 6) : (mmS l m K C i j).set (i * 6 + j) (dm l m i j K) = mmS l m K C i (j + 1) := by
  refine ext_len (by rw [List.length_set, mmS_length, mmS_length]) (fun q hq => ?_)
  rw [List.length_set, mmS_length] at hq
  rw [mmS_get l m K C i (j + 1) hq, List.getElem?_set]
  by_cases e : i * 6 + j = q
  · subst e
    have e1 : (i * 6 + j) / 6 = i := by omega
    have e2 : (i * 6 + j) % 6 = j := by omega
    rw [if_pos rfl, if_pos (by rw [mmS_length]; exact hq), if_pos (by omega), e1, e2]
  · rw [if_neg e, mmS_get l m K C i j hq]
    by_cases h : (q / 6 < i ∧ q % 6 < C) ∨ (q / 6 = i ∧ q % 6 < j)
    · rw [if_pos h, if_pos (by omega)]
    · rw [if_neg h, if_neg (by omega)]
theorem mmS_row (l m : List Int) (K C i : Nat) : mmS l m K C i C = mmS l m K C (i + 1) 0 := by
  refine ext_len (by rw [mmS_length, mmS_length]) (fun q hq => ?_)
  rw [mmS_length] at hq
  rw [mmS_get _ _ _ _ _ _ hq, mmS_get _ _ _ _ _ _ hq]
  by_cases h : (q / 6 < i ∧ q % 6 < C) ∨ (q / 6 = i ∧ q % 6 < C)
  · rw [if_pos h, if_pos (by omega)]
  · rw [if_neg h, if_neg (by omega)]
def mmW (l m : List Int) (K C i j k : Nat) : List Int := (mmS l m K C i j).set (i * 6 + j) (dm l m i j k)
theorem mmW_length (l m : List Int) (K C i j k : Nat) : (mmW l m K C i j k).length = 36 := by unfold mmW; rw [List.length_set, mmS_length]
theorem mmW_zero (l m : List Int) (K C i j : Nat) (hi : i < 6) (hj : j < 6) : mmW l m K C i j 0 = mmS l m K C i j := by
  refine ext_len (by rw [mmW_length, mmS_length]) (fun q hq => ?_)
  rw [mmW_length] at hq
  unfold mmW
  rw [List.getElem?_set]
  by_cases e : i * 6 + j = q
  · subst e
    rw [if_pos rfl, if_pos (by rw [mmS_length]; exact hq), mmS_get _ _ _ _ _ _ hq, if_neg (by omega)]; rfl
  · rw [if_neg e]
theorem mmW_at (l m : List Int) (K C i j k : Nat) (hi : i < 6) (hj : j < 6) : (mmW l m K C i j k).getD (i * 6 + j) 0 = dm l m i j k := by
  unfold mmW
  exact getD_of (by rw [List.getElem?_set, if_pos rfl, if_pos (by rw [mmS_length]; omega)])
theorem mmW_set (l m : List Int) (K C i j k : Nat) : (mmW l m K C i j k).set (i * 6 + j) (dm l m i j (k + 1)) = mmW l m K C i j (k + 1) := by
  unfold mmW
  rw [List.set_set]

set_option maxHeartbeats 16000000 in
set_option maxRecDepth 100000 in
theorem l02Times_calls (R K C : Nat) (l m : List Int) (hl : l.length = 36) (hm : m.length = 36) (hR : R ≤ 6) (hK : K ≤ 6) (hC : C ≤ 6) (hw : W16 l) (hx : W16 m) (ga gb : Nat) (w : World) (hA : Blk w ga 29 (M R K l)) (hB : Blk w gb 29 (M K C m)) :
    Calls Try.prog 51 #[.pointer (some ⟨ga, 0, none⟩), .pointer (some ⟨gb, 0, none⟩)] w fun e w' => e = .returned (.agg (M R C (mmS l m K C R 0)).toArray) ∧ Below w.heap.size w w' := by
  have HL := Lib.hid hl
  have HM := Lib.hid hm
  have HRC : Hid (R ≤ 6 ∧ K ≤ 6 ∧ C ≤ 6) := Lib.hid ⟨hR, hK, hC⟩
  have HW := Lib.hid hw
  have HX := Lib.hid hx
  have HB := Lib.hid (Below.refl w.heap.size w)
  have q1 : (0 : Int) ≤ (R : Int) := by omega
  have q2 : (R : Int) ≤ 6 := by omega
  have q3 : (0 : Int) ≤ (C : Int) := by omega
  have q4 : (C : Int) ≤ 6 := by omega
  have q5 : (0 : Int) ≤ (K : Int) := by omega
  have q6 : (K : Int) ≤ 6 := by omega
  have BKa := Lib.hid hA
  have BKb := Lib.hid hB
  clear hl hm hR hK hC hw hx hA hB
  go_enter Try.func51, Try.ntmps51
  go_wp2_with (first
    | ((with_reducible refine gate_dst (N := 4) rfl ?_); refine box_event ?hg (N := 4) ?hd (cs := (M 0 0 (List.replicate 36 0)).toArray) (t := 29) ?hr ?_; (case hd => rfl); (case hg => rfl); (case hr => first | (go_simp; done) | (go_simp; rfl)); intro gr hg Wr hbox hb; have GWr := Lib.hid ((by rw [hg]; exact below_size (w := w) (by repeat (first | (with_reducible first | exact HB.out | apply below_alloc | apply pw_below_drewN | apply below_drew) | exact HB.out))) : w.heap.size ≤ gr); have NEar : ga ≠ gr := (by rw [hg]; exact Nat.ne_of_lt (Blk.lt (by (with_reducible repeat (first | apply Blk.alloc | apply Blk.drewN | apply Blk.drew)); exact BKa.out))); have NEra : gr ≠ ga := NEar.symm; have NEbr : gb ≠ gr := (by rw [hg]; exact Nat.ne_of_lt (Blk.lt (by (with_reducible repeat (first | apply Blk.alloc | apply Blk.drewN | apply Blk.drew)); exact BKb.out))); have NErb : gr ≠ gb := NEbr.symm; have BKa_n := Lib.hid (Blk.below (by (with_reducible repeat (first | apply Blk.alloc | apply Blk.drewN | apply Blk.drew)); exact BKa.out) hb); have BKb_n := Lib.hid (Blk.below (by (with_reducible repeat (first | apply Blk.alloc | apply Blk.drewN | apply Blk.drew)); exact BKb.out) hb); have HB_n := Lib.hid (below_step (w := w) (by repeat (first | (with_reducible first | exact HB.out | apply below_alloc | apply pw_below_drewN | apply below_drew) | exact HB.out)) hb); clear BKa; have BKa := BKa_n; clear BKa_n; clear BKb; have BKb := BKb_n; clear BKb_n; clear HB; have HB := HB_n; clear HB_n; have BKr := Lib.hid (show Blk Wr gr 29 (M 0 0 (List.replicate 36 0)) from hbox); clear hbox hg hb))
  have BKa_n := Lib.hid (Blk.drew BKa.out)
  have BKb_n := Lib.hid (Blk.drew BKb.out)
  have BKr_n := Lib.hid (Blk.drew BKr.out)
  have HB_n := Lib.hid (below_drew HB.out)
  clear BKa
  have BKa := BKa_n
  clear BKa_n
  clear BKb
  have BKb := BKb_n
  clear BKb_n
  clear BKr
  have BKr := BKr_n
  clear BKr_n
  clear HB
  have HB := HB_n
  clear HB_n
  refine start_ (n := 11) (S := fun w' => w'.cell? ⟨ga, 0, none⟩ = some (.int .i8 (R : Int)) ∧ w'.cell? ⟨gb, 1, none⟩ = some (.int .i8 (C : Int))) (ds := [10]) #[false, false, false, false, false, false, false, false, false, false, false] (by kernel_rfl) rfl rfl ⟨BKa.out.cell 0, BKb.out.cell 1⟩ (fun hHeld => ?_)
  generalize Wr.drew = W9 at BKa BKb BKr HB hHeld ⊢
  refine pure_ (i := 0) (N := some 10) (v := ?_) (a' := ?_) #[true, false, false, false, false, false, false, false, false, false, false] rfl rfl (by kernel_rfl) (fun _ _ _ h => h) (Or.inl ⟨by rfl, ?_⟩) ?_ ?_
  rotate_left
  · intro w'
    go_simp
    with_reducible rfl
  rotate_left
  · simp only [Act.put, List.setIfInBounds_toArray, List.set_cons_zero, List.set_cons_succ, i64_w, i32_w]
    rfl
  refine pure_ (i := 1) (N := some 11) (v := ?_) (a' := ?_) #[true, true, false, false, false, false, false, false, false, false, false] rfl rfl (by kernel_rfl) (fun _ _ _ h => h) (Or.inl ⟨by rfl, ?_⟩) ?_ ?_
  rotate_left
  · intro w'
    go_simp
    with_reducible rfl
  rotate_left
  · simp only [Act.put, List.setIfInBounds_toArray, List.set_cons_zero, List.set_cons_succ, i64_w, i32_w]
    rfl
  refine pure_ (i := 2) (N := some 12) (v := ?_) (a' := ?_) #[true, true, true, false, false, false, false, false, false, false, false] rfl rfl (by kernel_rfl) (fun _ _ _ h => h) (Or.inl ⟨by rfl, ?_⟩) ?_ ?_
  rotate_left
  · intro w'
    go_simp
    with_reducible rfl
  rotate_left
  · simp only [Act.put, List.setIfInBounds_toArray, List.set_cons_zero, List.set_cons_succ, i64_w, i32_w]
    rfl
  refine take_ (i := 3) (N := some 13) (v := ?_) (a' := ?_) #[true, true, true, true, false, false, false, false, false, false, false] rfl rfl (by kernel_rfl) (fun _ _ _ h => h) (Or.inl ⟨by rfl, ?_⟩) hHeld ?_ ?_
  rotate_left
  · rintro w' ⟨s0, s1⟩
    go_simp
    with_reducible rfl
  rotate_left
  · simp only [Act.put, List.setIfInBounds_toArray, List.set_cons_zero, List.set_cons_succ, i64_w, i32_w]
    rfl
  refine pure_ (i := 4) (N := some 14) (v := ?_) (a' := ?_) #[true, true, true, true, true, false, false, false, false, false, false] rfl rfl (by kernel_rfl) (fun _ _ _ h => h) (Or.inl ⟨by rfl, ?_⟩) ?_ ?_
  rotate_left
  · intro w'
    go_simp
    with_reducible rfl
  rotate_left
  · simp only [Act.put, List.setIfInBounds_toArray, List.set_cons_zero, List.set_cons_succ, i64_w, i32_w]
    rfl
  refine pure_ (i := 5) (N := some 15) (v := ?_) (a' := ?_) #[true, true, true, true, true, true, false, false, false, false, false] rfl rfl (by kernel_rfl) (fun _ _ _ h => h) (Or.inl ⟨by rfl, ?_⟩) ?_ ?_
  rotate_left
  · intro w'
    go_simp
    with_reducible rfl
  rotate_left
  · simp only [Act.put, List.setIfInBounds_toArray, List.set_cons_zero, List.set_cons_succ, i64_w, i32_w]
    rfl
  refine pure_ (i := 6) (N := some 16) (v := ?_) (a' := ?_) #[true, true, true, true, true, true, true, false, false, false, false] rfl rfl (by kernel_rfl) (fun _ _ _ h => h) (Or.inl ⟨by rfl, ?_⟩) ?_ ?_
  rotate_left
  · intro w'
    go_simp
    with_reducible rfl
  rotate_left
  · simp only [Act.put, List.setIfInBounds_toArray, List.set_cons_zero, List.set_cons_succ, i64_w, i32_w]
    rfl
  refine take_ (i := 7) (N := some 17) (v := ?_) (a' := ?_) #[true, true, true, true, true, true, true, true, false, false, false] rfl rfl (by kernel_rfl) (fun _ _ _ h => h) (Or.inl ⟨by rfl, ?_⟩) hHeld ?_ ?_
  rotate_left
  · rintro w' ⟨s0, s1⟩
    go_simp
    with_reducible rfl
  rotate_left
  · simp only [Act.put, List.setIfInBounds_toArray, List.set_cons_zero, List.set_cons_succ, i64_w, i32_w]
    rfl
  refine pure_ (i := 8) (N := some 18) (v := ?_) (a' := ?_) #[true, true, true, true, true, true, true, true, true, false, false] rfl rfl (by kernel_rfl) (fun _ _ _ h => h) (Or.inl ⟨by rfl, ?_⟩) ?_ ?_
  rotate_left
  · intro w'
    go_simp
    with_reducible rfl
  rotate_left
  · simp only [Act.put, List.setIfInBounds_toArray, List.set_cons_zero, List.set_cons_succ, i64_w, i32_w]
    rfl
  refine one_ (i := 9) (N := some 5) #[true, true, true, true, true, true, true, true, true, true, false] rfl rfl (by kernel_rfl) (by decide) (fun K_ hK => ?_)
  refine alloc_ (N := some 5) ?hw ?hN (M 0 0 (List.replicate 36 0)) 29 ?hr ?_
  case hw => rfl
  case hN => rfl
  case hr => first | (go_simp; done) | (go_simp; rfl)
  intro go hg Wo BKo_ hb
  have GWo := Lib.hid ((by rw [hg]; exact below_size HB.out) : w.heap.size ≤ go)
  have BKo := Lib.hid BKo_
  have NEao : ga ≠ go := (by rw [hg]; exact Nat.ne_of_lt (Blk.lt BKa.out))
  have NEbo : gb ≠ go := (by rw [hg]; exact Nat.ne_of_lt (Blk.lt BKb.out))
  have NEro : gr ≠ go := (by rw [hg]; exact Nat.ne_of_lt (Blk.lt BKr.out))
  have NEor : go ≠ gr := NEro.symm
  have BKa_n := Lib.hid (Blk.below BKa.out hb)
  have BKb_n := Lib.hid (Blk.below BKb.out hb)
  have BKr_n := Lib.hid (Blk.below BKr.out hb)
  have HB_n := Lib.hid (below_step HB.out hb)
  clear BKa
  have BKa := BKa_n
  clear BKa_n
  clear BKb
  have BKb := BKb_n
  clear BKb_n
  clear BKr
  have BKr := BKr_n
  clear BKr_n
  clear HB
  have HB := HB_n
  clear HB_n
  clear hb hg BKo_
  refine hK.out _ _ ⟨BKa.out.cell 0, BKb.out.cell 1⟩ (fun hHeld => ?_)
  clear hK K_
  refine norm_ (a' := ?_) ?_ ?_
  rotate_left
  · show Act.put _ (some 5) _ = _
    simp only [Act.put, List.setIfInBounds_toArray, List.set_cons_zero, List.set_cons_succ, i64_w, i32_w]
    rfl
  refine last_ (i := 10) (N := none) #[true, true, true, true, true, true, true, true, true, true, true] rfl rfl (by kernel_rfl) (by decide) (fun K_ hK => ?_)
  refine ststore_ ?hw 29 5 (.tmp 18) ?ho ?hN go ?hx (M R C (List.replicate 36 0)) ?hy 29 (M 0 0 (List.replicate 36 0)) BKo.out inf29 rfl (M_one _ _ _) ?_
  case hw => rfl
  case ho => rfl
  case hN => rfl
  case hx => rfl
  case hy => rfl
  intro W8 hbk hfar hbel
  have BKa_n := Lib.hid (Blk.other BKa.out hfar NEao)
  have BKb_n := Lib.hid (Blk.other BKb.out hfar NEbo)
  have BKr_n := Lib.hid (Blk.other BKr.out hfar NEro)
  have HB_n := Lib.hid (hbel _ _ HB.out GWo.out)
  have BKo_n := Lib.hid (hbk)
  clear BKa
  have BKa := BKa_n
  clear BKa_n
  clear BKb
  have BKb := BKb_n
  clear BKb_n
  clear BKr
  have BKr := BKr_n
  clear BKr_n
  clear HB
  have HB := HB_n
  clear HB_n
  clear BKo
  have BKo := BKo_n
  clear BKo_n
  clear hbk hfar hbel
  refine hK.out _ _ ?_
  clear hK K_
  refine done_ (by kernel_rfl) ?_
  go_wp2
  go_loopg [6] R (fun gg v6 wr => ∃ i : Nat, Hid (i ≤ R) ∧ Hid (R - i ≤ gg) ∧ v6 = .int .i64 (i : Int) ∧ Hid (Blk wr ga 29 (M R K l)) ∧ Hid (Blk wr gb 29 (M K C m)) ∧ Hid (Blk wr gr 29 (M 0 0 (List.replicate 36 0))) ∧ Hid (Blk wr go 29 (M R C (mmS l m K C i 0))) ∧ Hid (Below w.heap.size w wr))
  case atStart => exact ⟨0, Lib.hid (Nat.zero_le _), Lib.hid (Nat.sub_le _ _), rfl, BKa, BKb, BKr, Lib.hid (by rw [mmS_zero]; exact BKo.out), HB⟩
  case round =>
      clear BKa HB BKr BKo BKb
      obtain ⟨i, hn, hg, rfl, BKa, BKb, BKr, BKo, HB⟩ := hrel
      by_cases hlt : i < R
      · skip
        have ib0 : decide ((i : Int) < (R : Int)) = true := decide_eq_true (by omega)
        have ib1 : (i : Int) < (R : Int) := by omega
        have ib2 : (i : Int) < 6 := by have := HRC.out; omega
        have ii0 : (0 : Int) ≤ (i : Int) := by omega
        have iib : i < 9223372036854775807 := by have := HRC.out; omega
        have hr0 : wr.cell? ⟨ga, 0, none⟩ = some (.int .i8 (R : Int)) := BKa.out.cell 0
        have hc1 : wr.cell? ⟨gb, 1, none⟩ = some (.int .i8 (C : Int)) := BKb.out.cell 1
        have HNi := Lib.hid hlt
        have HGi := Lib.hid hg.out
        clear hlt hn hg
        go_wp2
        clear hr0 hc1
        go_loopg [7] C (fun gg v7 wq => ∃ j : Nat, Hid (j ≤ C) ∧ Hid (C - j ≤ gg) ∧ v7 = .int .i64 (j : Int) ∧ Hid (Blk wq ga 29 (M R K l)) ∧ Hid (Blk wq gb 29 (M K C m)) ∧ Hid (Blk wq gr 29 (M 0 0 (List.replicate 36 0))) ∧ Hid (Blk wq go 29 (M R C (mmS l m K C i j))) ∧ Hid (Below w.heap.size w wq))
        case atStart => exact ⟨0, Lib.hid (Nat.zero_le _), Lib.hid (Nat.sub_le _ _), rfl, BKa, BKb, BKr, BKo, HB⟩
        case round =>
          clear BKa HB BKr BKo BKb
          obtain ⟨j, hn, hg, rfl, BKa, BKb, BKr, BKo, HB⟩ := hrel
          by_cases hlt : j < C
          · skip
            have jb0 : decide ((j : Int) < (C : Int)) = true := decide_eq_true (by omega)
            have jb1 : (j : Int) < (C : Int) := by omega
            have jb2 : (j : Int) < 6 := by have := HRC.out; omega
            have ji0 : (0 : Int) ≤ (j : Int) := by omega
            have jib : j < 9223372036854775807 := by have := HRC.out; omega
            have hc1 : wr.cell? ⟨gb, 1, none⟩ = some (.int .i8 (C : Int)) := BKb.out.cell 1
            have hk1 : wr.cell? ⟨ga, 1, none⟩ = some (.int .i8 (K : Int)) := BKa.out.cell 1
            have HNj := Lib.hid hlt
            have HGj := Lib.hid hg.out
            clear hlt hn hg
            go_wp2
            clear hc1 hk1
            go_loopg [8, 9] K (fun gg v8 v9 wz => ∃ k : Nat, Hid (k ≤ K) ∧ Hid (K - k ≤ gg) ∧ v8 = .int .u16 (dm l m i j k) ∧ v9 = .int .i64 (k : Int) ∧ Hid (Blk wz ga 29 (M R K l)) ∧ Hid (Blk wz gb 29 (M K C m)) ∧ Hid (Blk wz gr 29 (M 0 0 (List.replicate 36 0))) ∧ Hid (Blk wz go 29 (M R C (mmS l m K C i j))) ∧ Hid (Below w.heap.size w wz))
            case atStart => exact ⟨0, Lib.hid (Nat.zero_le _), Lib.hid (Nat.sub_le _ _), rfl, rfl, BKa, BKb, BKr, BKo, HB⟩
            case round =>
              clear BKa HB BKr BKo BKb
              obtain ⟨k, hn, hg, rfl, rfl, BKa, BKb, BKr, BKo, HB⟩ := hrel
              by_cases hlt : k < K
              · skip
                have kb0 : decide ((k : Int) < (K : Int)) = true := decide_eq_true (by omega)
                have kb1 : (k : Int) < (K : Int) := by omega
                have kb2 : (k : Int) < 6 := by have := HRC.out; omega
                have ki0 : (0 : Int) ≤ (k : Int) := by omega
                have kib : k < 9223372036854775807 := by have := HRC.out; omega
                have hk1 : wr.cell? ⟨ga, 1, none⟩ = some (.int .i8 (K : Int)) := BKa.out.cell 1
                have hN : i * 6 + k < l.length := by rw [HL.out]; have := HNi.out; have := HRC.out; omega
                have hNm : k * 6 + j < m.length := by rw [HM.out]; have := HNj.out; have := HRC.out; omega
                have hx := (BKa.out.cell (i * 6 + k + 2)).trans (M_get hN)
                rw [show i * 6 + k + 2 = 2 + i * 6 + k by omega] at hx
                have hy := (BKb.out.cell (k * 6 + j + 2)).trans (M_get hNm)
                rw [show k * 6 + j + 2 = 2 + k * 6 + j by omega] at hy
                have H1 := Lib.hid (HW.out.at_ hN)
                have H2 := Lib.hid (HX.out.at_ hNm)
                have TS : Hid (dm l m i j (k + 1) = Go.bits .xor .u16 (dm l m i j k) (tm (l.getD (i * 6 + k) 0) (m.getD (k * 6 + j) 0))) := Lib.hid rfl
                generalize l.getD (i * 6 + k) 0 = x at hx TS H1
                generalize m.getD (k * 6 + j) 0 = y at hy TS H2
                generalize dm l m i j k = d at TS ⊢
                have HN := Lib.hid hlt
                clear hlt hn hN hNm
                go_wp2
                go_quiet ((go_at_call 39; exact Calls.quiet_of ((stm_calls H1.out H2.out _).mono (fun _ _ h => ⟨h.1, by obtain ⟨q⟩ := h.2; exact q⟩))))
                go_wp2
                go_roundg (K - (k + 1))
                case measure => have := hg.out; have := HN.out; omega
                case rel => exact ⟨k + 1, Lib.hid HN.out, Lib.hid (Nat.le_refl _), by rw [TS.out], by first | rfl | go_num, Lib.hid (BKa.out.drewN _), Lib.hid (BKb.out.drewN _), Lib.hid (BKr.out.drewN _), Lib.hid (BKo.out.drewN _), Lib.hid (pw_below_drewN HB.out _)⟩
              · have en : k = K := by have := hn.out; omega
                subst en
                have kb0 : decide ((k : Int) < (k : Int)) = false := decide_eq_false (by omega)
                have hk1 : wr.cell? ⟨ga, 1, none⟩ = some (.int .i8 (k : Int)) := BKa.out.cell 1
                have hi6 : i < 6 := by have := HRC.out; have := HNi.out; omega
                have hj6 : j < 6 := by have := HRC.out; have := HNj.out; omega
                have TS := Lib.hid (mmS_set l m k C i j hi6 hj6)
                have hN : i * 6 + j < (mmS l m k C i j).length := by rw [mmS_length]; omega
                have hd := (BKo.out.cell (i * 6 + j + 2)).trans (M_get hN)
                rw [show i * 6 + j + 2 = 2 + i * 6 + j by omega] at hd
                have hf := BKo.out.frozen (2 + i * 6 + j)
                generalize (mmS l m k C i j).getD (i * 6 + j) 0 = y at hd
                generalize dm l m i j k = d at TS ⊢
                clear hn hg hlt hN hi6 hj6
                go_wp2
                go_roundg (C - (j + 1))
                case measure => have := HGj.out; have := HNj.out; omega
                case rel => exact ⟨j + 1, Lib.hid HNj.out, Lib.hid (Nat.le_refl _), by first | rfl | go_num, Lib.hid (BKa.out.far NEao _ _), Lib.hid (BKb.out.far NEbo _ _), Lib.hid (BKr.out.far NEro _ _), Lib.hid (by have := BKo.out.set (2 + i * 6 + j) (.int .u16 d); rw [show 2 + i * 6 + j = i * 6 + j + 2 by omega, M_set, TS.out] at this; rw [show 2 + i * 6 + j = i * 6 + j + 2 by omega]; exact this), Lib.hid (below_set HB.out GWo.out)⟩
          · have en : j = C := by have := hn.out; omega
            subst en
            have jb0 : decide ((j : Int) < (j : Int)) = false := decide_eq_false (by omega)
            have hc1 : wr.cell? ⟨gb, 1, none⟩ = some (.int .i8 (j : Int)) := BKb.out.cell 1
            clear hn hg hlt
            go_wp2
            go_roundg (R - (i + 1))
            case measure => have := HGi.out; have := HNi.out; omega
            case rel => exact ⟨i + 1, Lib.hid HNi.out, Lib.hid (Nat.le_refl _), by first | rfl | go_num, BKa, BKb, BKr, Lib.hid (by rw [← mmS_row]; exact BKo.out), HB⟩
      · have en : i = R := by have := hn.out; omega
        subst en
        have ib0 : decide ((i : Int) < (i : Int)) = false := decide_eq_false (by omega)
        have hr0 : wr.cell? ⟨ga, 0, none⟩ = some (.int .i8 (i : Int)) := BKa.out.cell 0
        clear hn hg hlt
        go_wp2_with (first
    | ((with_reducible refine wpList_ldall rfl 29 (.tmp 5) rfl go ?hx 29 (M i C (mmS l m K C i 0)) _ ?hB Try.underlying29 rfl ?hi ?_); (case hx => rfl); (case hB => exact (by (with_reducible repeat (first | apply Blk.alloc | apply Blk.drewN | apply Blk.drew)); exact BKo.out)); (case hi => rw [M_length, mmS_length]; exact inf29))
    | ((with_reducible refine wpList_stall rfl 29 4 _ rfl rfl gr ?hx (M i C (mmS l m K C i 0)) ?hy 29 (M 0 0 (List.replicate 36 0)) ?hB ?hi ?hf (M_one _ _ _) ?_); (case hx => rfl); (case hy => rfl); (case hB => exact (by (with_reducible repeat (first | apply Blk.alloc | apply Blk.drewN | apply Blk.drew)); exact BKr.out)); (case hi => rw [M_length, mmS_length]; exact inf29); (case hf => rw [M_length, mmS_length]; rfl); intro W_ hbk hfar hbel; have BKa_n := Lib.hid (Blk.other (by (with_reducible repeat (first | apply Blk.alloc | apply Blk.drewN | apply Blk.drew)); exact BKa.out) hfar NEar); have BKb_n := Lib.hid (Blk.other (by (with_reducible repeat (first | apply Blk.alloc | apply Blk.drewN | apply Blk.drew)); exact BKb.out) hfar NEbr); have BKo_n := Lib.hid (Blk.other (by (with_reducible repeat (first | apply Blk.alloc | apply Blk.drewN | apply Blk.drew)); exact BKo.out) hfar NEor); have HB_n := Lib.hid (hbel _ _ (by repeat (first | (with_reducible first | exact HB.out | apply below_alloc | apply pw_below_drewN | apply below_drew) | exact HB.out)) GWr.out); have BKr_n := Lib.hid (hbk); clear BKa; have BKa := BKa_n; clear BKa_n; clear BKb; have BKb := BKb_n; clear BKb_n; clear BKo; have BKo := BKo_n; clear BKo_n; clear HB; have HB := HB_n; clear HB_n; clear BKr; have BKr := BKr_n; clear BKr_n; clear hbk hfar hbel))
        exact bodyPost_ret (results_cell_row Try.results51 _ _ gr 29 _ (0, 0) _ rfl BKr.out Try.underlying29 rfl (by simp only [List.size_toArray]; rw [M_length, mmS_length]; exact inf29)) rfl ⟨rfl, HB.out⟩

set_option maxHeartbeats 16000000 in
set_option maxRecDepth 100000 in
theorem implTimes_calls (R K C : Nat) (l m : List Int) (hl : l.length = 36) (hm : m.length = 36) (hR : R ≤ 6) (hK : K ≤ 6) (hC : C ≤ 6) (hw : W16 l) (hx : W16 m) (w : World) :
    Calls Try.prog 52 #[.agg (M R K l).toArray, .agg (M K C m).toArray] w fun e w' => e = .returned (.agg (M R C (mmS l m K C R 0)).toArray) ∧ Below w.heap.size w w' := by
  have HL := Lib.hid hl
  have HM := Lib.hid hm
  have HRC : Hid (R ≤ 6 ∧ K ≤ 6 ∧ C ≤ 6) := Lib.hid ⟨hR, hK, hC⟩
  have HW := Lib.hid hw
  have HX := Lib.hid hx
  have HB := Lib.hid (Below.refl w.heap.size w)
  have q1 : (0 : Int) ≤ (R : Int) := by omega
  have q2 : (R : Int) ≤ 6 := by omega
  have q3 : (0 : Int) ≤ (C : Int) := by omega
  have q4 : (C : Int) ≤ 6 := by omega
  have q5 : (0 : Int) ≤ (K : Int) := by omega
  have q6 : (K : Int) ≤ 6 := by omega
  clear hl hm hR hK hC hw hx
  go_enter Try.func52, Try.ntmps52
  go_wp2_with (first
    | ((with_reducible refine gate_dst (N := 2) rfl ?_); refine box_event ?hg (N := 2) ?hd (cs := (M R K l).toArray) (t := 29) ?hr ?_; (case hd => rfl); (case hg => rfl); (case hr => first | (go_simp; done) | (go_simp; rfl)); intro ga hg Wa hbox hb; have GWa := Lib.hid ((by rw [hg]; exact below_size (w := w) (by repeat (first | (with_reducible first | exact HB.out | apply below_alloc | apply pw_below_drewN | apply below_drew) | exact HB.out))) : w.heap.size ≤ ga); have HB_n := Lib.hid (below_step (w := w) (by repeat (first | (with_reducible first | exact HB.out | apply below_alloc | apply pw_below_drewN | apply below_drew) | exact HB.out)) hb); clear HB; have HB := HB_n; clear HB_n; have BKa := Lib.hid (show Blk Wa ga 29 (M R K l) from hbox); clear hbox hg hb)
    | ((with_reducible refine gate_dst (N := 3) rfl ?_); refine box_event ?hg (N := 3) ?hd (cs := (M K C m).toArray) (t := 29) ?hr ?_; (case hd => rfl); (case hg => rfl); (case hr => first | (go_simp; done) | (go_simp; rfl)); intro gb hg Wb hbox hb; have GWb := Lib.hid ((by rw [hg]; exact below_size (w := w) (by repeat (first | (with_reducible first | exact HB.out | apply below_alloc | apply pw_below_drewN | apply below_drew) | exact HB.out))) : w.heap.size ≤ gb); have NEab : ga ≠ gb := (by rw [hg]; exact Nat.ne_of_lt (Blk.lt (by (with_reducible repeat (first | apply Blk.alloc | apply Blk.drewN | apply Blk.drew)); exact BKa.out))); have NEba : gb ≠ ga := NEab.symm; have BKa_n := Lib.hid (Blk.below (by (with_reducible repeat (first | apply Blk.alloc | apply Blk.drewN | apply Blk.drew)); exact BKa.out) hb); have HB_n := Lib.hid (below_step (w := w) (by repeat (first | (with_reducible first | exact HB.out | apply below_alloc | apply pw_below_drewN | apply below_drew) | exact HB.out)) hb); clear BKa; have BKa := BKa_n; clear BKa_n; clear HB; have HB := HB_n; clear HB_n; have BKb := Lib.hid (show Blk Wb gb 29 (M K C m) from hbox); clear hbox hg hb)
    | ((with_reducible refine gate_dst (N := 4) rfl ?_); refine box_event ?hg (N := 4) ?hd (cs := (M 0 0 (List.replicate 36 0)).toArray) (t := 29) ?hr ?_; (case hd => rfl); (case hg => rfl); (case hr => first | (go_simp; done) | (go_simp; rfl)); intro gr hg Wr hbox hb; have GWr := Lib.hid ((by rw [hg]; exact below_size (w := w) (by repeat (first | (with_reducible first | exact HB.out | apply below_alloc | apply pw_below_drewN | apply below_drew) | exact HB.out))) : w.heap.size ≤ gr); have NEar : ga ≠ gr := (by rw [hg]; exact Nat.ne_of_lt (Blk.lt (by (with_reducible repeat (first | apply Blk.alloc | apply Blk.drewN | apply Blk.drew)); exact BKa.out))); have NEra : gr ≠ ga := NEar.symm; have NEbr : gb ≠ gr := (by rw [hg]; exact Nat.ne_of_lt (Blk.lt (by (with_reducible repeat (first | apply Blk.alloc | apply Blk.drewN | apply Blk.drew)); exact BKb.out))); have NErb : gr ≠ gb := NEbr.symm; have BKa_n := Lib.hid (Blk.below (by (with_reducible repeat (first | apply Blk.alloc | apply Blk.drewN | apply Blk.drew)); exact BKa.out) hb); have BKb_n := Lib.hid (Blk.below (by (with_reducible repeat (first | apply Blk.alloc | apply Blk.drewN | apply Blk.drew)); exact BKb.out) hb); have HB_n := Lib.hid (below_step (w := w) (by repeat (first | (with_reducible first | exact HB.out | apply below_alloc | apply pw_below_drewN | apply below_drew) | exact HB.out)) hb); clear BKa; have BKa := BKa_n; clear BKa_n; clear BKb; have BKb := BKb_n; clear BKb_n; clear HB; have HB := HB_n; clear HB_n; have BKr := Lib.hid (show Blk Wr gr 29 (M 0 0 (List.replicate 36 0)) from hbox); clear hbox hg hb; have hr9 : Wr.cell? ⟨ga, 0, none⟩ = some (.int .i8 (R : Int)) := BKa.out.cell 0; have hc9 : Wr.cell? ⟨gb, 1, none⟩ = some (.int .i8 (C : Int)) := BKb.out.cell 1)
    | ((with_reducible refine gate_dst (N := 5) rfl ?_); refine box_event ?hg (N := 5) ?hd (cs := (M 0 0 (List.replicate 36 0)).toArray) (t := 29) ?hr ?_; (case hd => rfl); (case hg => rfl); (case hr => first | (go_simp; done) | (go_simp; rfl)); intro go hg Wo hbox hb; have GWo := Lib.hid ((by rw [hg]; exact below_size (w := w) (by repeat (first | (with_reducible first | exact HB.out | apply below_alloc | apply pw_below_drewN | apply below_drew) | exact HB.out))) : w.heap.size ≤ go); have NEao : ga ≠ go := (by rw [hg]; exact Nat.ne_of_lt (Blk.lt (by (with_reducible repeat (first | apply Blk.alloc | apply Blk.drewN | apply Blk.drew)); exact BKa.out))); have NEoa : go ≠ ga := NEao.symm; have NEbo : gb ≠ go := (by rw [hg]; exact Nat.ne_of_lt (Blk.lt (by (with_reducible repeat (first | apply Blk.alloc | apply Blk.drewN | apply Blk.drew)); exact BKb.out))); have NEob : go ≠ gb := NEbo.symm; have NEro : gr ≠ go := (by rw [hg]; exact Nat.ne_of_lt (Blk.lt (by (with_reducible repeat (first | apply Blk.alloc | apply Blk.drewN | apply Blk.drew)); exact BKr.out))); have NEor : go ≠ gr := NEro.symm; have BKa_n := Lib.hid (Blk.below (by (with_reducible repeat (first | apply Blk.alloc | apply Blk.drewN | apply Blk.drew)); exact BKa.out) hb); have BKb_n := Lib.hid (Blk.below (by (with_reducible repeat (first | apply Blk.alloc | apply Blk.drewN | apply Blk.drew)); exact BKb.out) hb); have BKr_n := Lib.hid (Blk.below (by (with_reducible repeat (first | apply Blk.alloc | apply Blk.drewN | apply Blk.drew)); exact BKr.out) hb); have HB_n := Lib.hid (below_step (w := w) (by repeat (first | (with_reducible first | exact HB.out | apply below_alloc | apply pw_below_drewN | apply below_drew) | exact HB.out)) hb); clear BKa; have BKa := BKa_n; clear BKa_n; clear BKb; have BKb := BKb_n; clear BKb_n; clear BKr; have BKr := BKr_n; clear BKr_n; clear HB; have HB := HB_n; clear HB_n; have BKo := Lib.hid (show Blk Wo go 29 (M 0 0 (List.replicate 36 0)) from hbox); clear hbox hg hb)
    | ((with_reducible refine wpList_stall rfl 29 5 _ rfl rfl go ?hx (M R C (List.replicate 36 0)) ?hy 29 (M 0 0 (List.replicate 36 0)) ?hB ?hi ?hf (M_one _ _ _) ?_); (case hx => rfl); (case hy => rfl); (case hB => exact (by (with_reducible repeat (first | apply Blk.alloc | apply Blk.drewN | apply Blk.drew)); exact BKo.out)); (case hi => rw [M_length, List.length_replicate]; exact inf29); (case hf => rfl); intro W_ hbk hfar hbel; have BKa_n := Lib.hid (Blk.other (by (with_reducible repeat (first | apply Blk.alloc | apply Blk.drewN | apply Blk.drew)); exact BKa.out) hfar NEao); have BKb_n := Lib.hid (Blk.other (by (with_reducible repeat (first | apply Blk.alloc | apply Blk.drewN | apply Blk.drew)); exact BKb.out) hfar NEbo); have BKr_n := Lib.hid (Blk.other (by (with_reducible repeat (first | apply Blk.alloc | apply Blk.drewN | apply Blk.drew)); exact BKr.out) hfar NEro); have HB_n := Lib.hid (hbel _ _ (by repeat (first | (with_reducible first | exact HB.out | apply below_alloc | apply pw_below_drewN | apply below_drew) | exact HB.out)) GWo.out); have BKo_n := Lib.hid (hbk); clear BKa; have BKa := BKa_n; clear BKa_n; clear BKb; have BKb := BKb_n; clear BKb_n; clear BKr; have BKr := BKr_n; clear BKr_n; clear HB; have HB := HB_n; clear HB_n; clear BKo; have BKo := BKo_n; clear BKo_n; clear hbk hfar hbel; have hr8 : W_.cell? ⟨ga, 0, none⟩ = some (.int .i8 (R : Int)) := BKa.out.cell 0))
  go_loopg [16] R (fun gg v6 wr => ∃ i : Nat, Hid (i ≤ R) ∧ Hid (R - i ≤ gg) ∧ v6 = .int .i8 (i : Int) ∧ Hid (Blk wr ga 29 (M R K l)) ∧ Hid (Blk wr gb 29 (M K C m)) ∧ Hid (Blk wr gr 29 (M 0 0 (List.replicate 36 0))) ∧ Hid (Blk wr go 29 (M R C (mmS l m K C i 0))) ∧ Hid (Below w.heap.size w wr))
  case atStart => exact ⟨0, Lib.hid (Nat.zero_le _), Lib.hid (Nat.sub_le _ _), rfl, BKa, BKb, BKr, Lib.hid (by rw [mmS_zero]; exact BKo.out), HB⟩
  case round =>
      clear BKa HB BKr BKo BKb
      obtain ⟨i, hn, hg, rfl, BKa, BKb, BKr, BKo, HB⟩ := hrel
      by_cases hlt : i < R
      · skip
        have ib0 : decide ((i : Int) < (R : Int)) = true := decide_eq_true (by omega)
        have ib1 : (i : Int) < (R : Int) := by omega
        have ib2 : (i : Int) < 6 := by have := HRC.out; omega
        have ii0 : (0 : Int) ≤ (i : Int) := by omega
        have iib : i < 9223372036854775807 := by have := HRC.out; omega
        have hr0 : wr.cell? ⟨ga, 0, none⟩ = some (.int .i8 (R : Int)) := BKa.out.cell 0
        have hc1 : wr.cell? ⟨gb, 1, none⟩ = some (.int .i8 (C : Int)) := BKb.out.cell 1
        have HNi := Lib.hid hlt
        have HGi := Lib.hid hg.out
        clear hlt hn hg
        go_wp2
        clear hr0 hc1
        go_loopg [21] C (fun gg v7 wq => ∃ j : Nat, Hid (j ≤ C) ∧ Hid (C - j ≤ gg) ∧ v7 = .int .i8 (j : Int) ∧ Hid (Blk wq ga 29 (M R K l)) ∧ Hid (Blk wq gb 29 (M K C m)) ∧ Hid (Blk wq gr 29 (M 0 0 (List.replicate 36 0))) ∧ Hid (Blk wq go 29 (M R C (mmS l m K C i j))) ∧ Hid (Below w.heap.size w wq))
        case atStart => exact ⟨0, Lib.hid (Nat.zero_le _), Lib.hid (Nat.sub_le _ _), rfl, BKa, BKb, BKr, BKo, HB⟩
        case round =>
          clear BKa HB BKr BKo BKb
          obtain ⟨j, hn, hg, rfl, BKa, BKb, BKr, BKo, HB⟩ := hrel
          by_cases hlt : j < C
          · skip
            have jb0 : decide ((j : Int) < (C : Int)) = true := decide_eq_true (by omega)
            have jb1 : (j : Int) < (C : Int) := by omega
            have jb2 : (j : Int) < 6 := by have := HRC.out; omega
            have ji0 : (0 : Int) ≤ (j : Int) := by omega
            have jib : j < 9223372036854775807 := by have := HRC.out; omega
            have hc1 : wr.cell? ⟨gb, 1, none⟩ = some (.int .i8 (C : Int)) := BKb.out.cell 1
            have hk1 : wr.cell? ⟨ga, 1, none⟩ = some (.int .i8 (K : Int)) := BKa.out.cell 1
            have HNj := Lib.hid hlt
            have HGj := Lib.hid hg.out
            clear hlt hn hg
            go_wp2
            clear hc1 hk1
            go_loopg [26] K (fun gg v9 wz => ∃ k : Nat, Hid (k ≤ K) ∧ Hid (K - k ≤ gg) ∧ v9 = .int .i8 (k : Int) ∧ Hid (Blk wz ga 29 (M R K l)) ∧ Hid (Blk wz gb 29 (M K C m)) ∧ Hid (Blk wz gr 29 (M 0 0 (List.replicate 36 0))) ∧ Hid (Blk wz go 29 (M R C (mmW l m K C i j k))) ∧ Hid (Below w.heap.size w wz))
            case atStart => exact ⟨0, Lib.hid (Nat.zero_le _), Lib.hid (Nat.sub_le _ _), rfl, BKa, BKb, BKr, Lib.hid (by rw [mmW_zero _ _ _ _ _ _ (by have := HNi.out; have := HRC.out; omega) (by have := HNj.out; have := HRC.out; omega)]; exact BKo.out), HB⟩
            case round =>
              clear BKa HB BKr BKo BKb
              obtain ⟨k, hn, hg, rfl, BKa, BKb, BKr, BKo, HB⟩ := hrel
              by_cases hlt : k < K
              · skip
                have kb0 : decide ((k : Int) < (K : Int)) = true := decide_eq_true (by omega)
                have kb1 : (k : Int) < (K : Int) := by omega
                have kb2 : (k : Int) < 6 := by have := HRC.out; omega
                have ki0 : (0 : Int) ≤ (k : Int) := by omega
                have kib : k < 9223372036854775807 := by have := HRC.out; omega
                have hk1 : wr.cell? ⟨ga, 1, none⟩ = some (.int .i8 (K : Int)) := BKa.out.cell 1
                have hN : i * 6 + k < l.length := by rw [HL.out]; have := HNi.out; have := HRC.out; omega
                have hNm : k * 6 + j < m.length := by rw [HM.out]; have := HNj.out; have := HRC.out; omega
                have hx := (BKa.out.cell (i * 6 + k + 2)).trans (M_get hN)
                rw [show i * 6 + k + 2 = 2 + i * 6 + k by omega] at hx
                have hy := (BKb.out.cell (k * 6 + j + 2)).trans (M_get hNm)
                rw [show k * 6 + j + 2 = 2 + k * 6 + j by omega] at hy
                have H1 := Lib.hid (HW.out.at_ hN)
                have H2 := Lib.hid (HX.out.at_ hNm)
                have hi6 : i < 6 := by have := HRC.out; have := HNi.out; omega
                have hj6 : j < 6 := by have := HRC.out; have := HNj.out; omega
                have hd := (BKo.out.cell (i * 6 + j + 2)).trans (M_get (by rw [mmW_length]; omega))
                rw [mmW_at _ _ _ _ _ _ _ hi6 hj6, show i * 6 + j + 2 = 2 + i * 6 + j by omega] at hd
                have hf := BKo.out.frozen (2 + i * 6 + j)
                have TS := Lib.hid (mmW_set l m K C i j k)
                rw [show dm l m i j (k + 1) = Go.bits .xor .u16 (dm l m i j k) (tm (l.getD (i * 6 + k) 0) (m.getD (k * 6 + j) 0)) from rfl] at TS
                generalize l.getD (i * 6 + k) 0 = x at hx TS H1
                generalize m.getD (k * 6 + j) 0 = y at hy TS H2
                generalize dm l m i j k = d at TS hd
                have HN := Lib.hid hlt
                clear hlt hn hN hNm hi6 hj6 hk1
                go_wp2
                have hf_d : wr.drew.frozen? ⟨go, 2 + i * 6 + j, none⟩ = false := hf
                clear hf
                have BKa_n := Lib.hid (Blk.drew BKa.out)
                have BKb_n := Lib.hid (Blk.drew BKb.out)
                have BKr_n := Lib.hid (Blk.drew BKr.out)
                have BKo_n := Lib.hid (Blk.drew BKo.out)
                have HB_n := Lib.hid (below_drew HB.out)
                clear BKa
                have BKa := BKa_n
                clear BKa_n
                clear BKb
                have BKb := BKb_n
                clear BKb_n
                clear BKr
                have BKr := BKr_n
                clear BKr_n
                clear BKo
                have BKo := BKo_n
                clear BKo_n
                clear HB
                have HB := HB_n
                clear HB_n
                refine start_ (n := 24) (S := fun w' => w'.cell? ⟨go, 2 + i * 6 + j, none⟩ = some (.int .u16 d) ∧ w'.cell? ⟨ga, 2 + i * 6 + k, none⟩ = some (.int .u16 x) ∧ w'.cell? ⟨gb, 2 + k * 6 + j, none⟩ = some (.int .u16 y)) (ds := [23]) #[false, false, false, false, false, false, false, false, false, false, false, false, false, false, false, false, false, false, false, false, false, false, false, false] (by kernel_rfl) rfl rfl ⟨hd, hx, hy⟩ (fun hHeld => ?_)
                have hd_d : wr.drew.cell? ⟨go, 2 + i * 6 + j, none⟩ = some (.int .u16 d) := hd
                clear hd
                have hx_d : wr.drew.cell? ⟨ga, 2 + i * 6 + k, none⟩ = some (.int .u16 x) := hx
                clear hx
                have hy_d : wr.drew.cell? ⟨gb, 2 + k * 6 + j, none⟩ = some (.int .u16 y) := hy
                clear hy
                generalize wr.drew = W24 at BKa BKb BKr BKo HB hd_d hx_d hy_d hf_d hHeld ⊢
                refine pure_ (i := 0) (N := some 29) (v := ?_) (a' := ?_) #[true, false, false, false, false, false, false, false, false, false, false, false, false, false, false, false, false, false, false, false, false, false, false, false] rfl rfl (by kernel_rfl) (fun _ _ _ h => h) (Or.inl ⟨by rfl, ?_⟩) ?_ ?_
                rotate_left
                · intro w'
                  go_simp
                  with_reducible rfl
                rotate_left
                · simp only [Act.put, List.setIfInBounds_toArray, List.set_cons_zero, List.set_cons_succ, i64_w, i32_w]
                  rfl
                refine pure_ (i := 1) (N := some 30) (v := ?_) (a' := ?_) #[true, true, false, false, false, false, false, false, false, false, false, false, false, false, false, false, false, false, false, false, false, false, false, false] rfl rfl (by kernel_rfl) (fun _ _ _ h => h) (Or.inl ⟨by rfl, ?_⟩) ?_ ?_
                rotate_left
                · intro w'
                  go_simp
                  with_reducible rfl
                rotate_left
                · simp only [Act.put, List.setIfInBounds_toArray, List.set_cons_zero, List.set_cons_succ, i64_w, i32_w]
                  rfl
                refine pure_ (i := 2) (N := some 31) (v := ?_) (a' := ?_) #[true, true, true, false, false, false, false, false, false, false, false, false, false, false, false, false, false, false, false, false, false, false, false, false] rfl rfl (by kernel_rfl) (fun _ _ _ h => h) (Or.inl ⟨by rfl, ?_⟩) ?_ ?_
                rotate_left
                · intro w'
                  go_simp
                  with_reducible rfl
                rotate_left
                · simp only [Act.put, List.setIfInBounds_toArray, List.set_cons_zero, List.set_cons_succ, i64_w, i32_w]
                  rfl
                refine pure_ (i := 3) (N := some 32) (v := ?_) (a' := ?_) #[true, true, true, true, false, false, false, false, false, false, false, false, false, false, false, false, false, false, false, false, false, false, false, false] rfl rfl (by kernel_rfl) (fun _ _ _ h => h) (Or.inl ⟨by rfl, ?_⟩) ?_ ?_
                rotate_left
                · intro w'
                  go_simp
                  with_reducible rfl
                rotate_left
                · simp only [Act.put, List.setIfInBounds_toArray, List.set_cons_zero, List.set_cons_succ, i64_w, i32_w]
                  rfl
                refine pure_ (i := 4) (N := some 33) (v := ?_) (a' := ?_) #[true, true, true, true, true, false, false, false, false, false, false, false, false, false, false, false, false, false, false, false, false, false, false, false] rfl rfl (by kernel_rfl) (fun _ _ _ h => h) (Or.inl ⟨by rfl, ?_⟩) ?_ ?_
                rotate_left
                · intro w'
                  go_simp
                  with_reducible rfl
                rotate_left
                · simp only [Act.put, List.setIfInBounds_toArray, List.set_cons_zero, List.set_cons_succ, i64_w, i32_w]
                  rfl
                refine pure_ (i := 6) (N := some 35) (v := ?_) (a' := ?_) #[true, true, true, true, true, false, true, false, false, false, false, false, false, false, false, false, false, false, false, false, false, false, false, false] rfl rfl (by kernel_rfl) (fun _ _ _ h => h) (Or.inl ⟨by rfl, ?_⟩) ?_ ?_
                rotate_left
                · intro w'
                  go_simp
                  with_reducible rfl
                rotate_left
                · simp only [Act.put, List.setIfInBounds_toArray, List.set_cons_zero, List.set_cons_succ, i64_w, i32_w]
                  rfl
                refine pure_ (i := 7) (N := some 36) (v := ?_) (a' := ?_) #[true, true, true, true, true, false, true, true, false, false, false, false, false, false, false, false, false, false, false, false, false, false, false, false] rfl rfl (by kernel_rfl) (fun _ _ _ h => h) (Or.inl ⟨by rfl, ?_⟩) ?_ ?_
                rotate_left
                · intro w'
                  go_simp
                  with_reducible rfl
                rotate_left
                · simp only [Act.put, List.setIfInBounds_toArray, List.set_cons_zero, List.set_cons_succ, i64_w, i32_w]
                  rfl
                refine pure_ (i := 8) (N := some 37) (v := ?_) (a' := ?_) #[true, true, true, true, true, false, true, true, true, false, false, false, false, false, false, false, false, false, false, false, false, false, false, false] rfl rfl (by kernel_rfl) (fun _ _ _ h => h) (Or.inl ⟨by rfl, ?_⟩) ?_ ?_
                rotate_left
                · intro w'
                  go_simp
                  with_reducible rfl
                rotate_left
                · simp only [Act.put, List.setIfInBounds_toArray, List.set_cons_zero, List.set_cons_succ, i64_w, i32_w]
                  rfl
                refine pure_ (i := 9) (N := some 38) (v := ?_) (a' := ?_) #[true, true, true, true, true, false, true, true, true, true, false, false, false, false, false, false, false, false, false, false, false, false, false, false] rfl rfl (by kernel_rfl) (fun _ _ _ h => h) (Or.inl ⟨by rfl, ?_⟩) ?_ ?_
                rotate_left
                · intro w'
                  go_simp
                  with_reducible rfl
                rotate_left
                · simp only [Act.put, List.setIfInBounds_toArray, List.set_cons_zero, List.set_cons_succ, i64_w, i32_w]
                  rfl
                refine pure_ (i := 10) (N := some 39) (v := ?_) (a' := ?_) #[true, true, true, true, true, false, true, true, true, true, true, false, false, false, false, false, false, false, false, false, false, false, false, false] rfl rfl (by kernel_rfl) (fun _ _ _ h => h) (Or.inl ⟨by rfl, ?_⟩) ?_ ?_
                rotate_left
                · intro w'
                  go_simp
                  with_reducible rfl
                rotate_left
                · simp only [Act.put, List.setIfInBounds_toArray, List.set_cons_zero, List.set_cons_succ, i64_w, i32_w]
                  rfl
                refine pure_ (i := 12) (N := some 41) (v := ?_) (a' := ?_) #[true, true, true, true, true, false, true, true, true, true, true, false, true, false, false, false, false, false, false, false, false, false, false, false] rfl rfl (by kernel_rfl) (fun _ _ _ h => h) (Or.inl ⟨by rfl, ?_⟩) ?_ ?_
                rotate_left
                · intro w'
                  go_simp
                  with_reducible rfl
                rotate_left
                · simp only [Act.put, List.setIfInBounds_toArray, List.set_cons_zero, List.set_cons_succ, i64_w, i32_w]
                  rfl
                refine pure_ (i := 13) (N := some 42) (v := ?_) (a' := ?_) #[true, true, true, true, true, false, true, true, true, true, true, false, true, true, false, false, false, false, false, false, false, false, false, false] rfl rfl (by kernel_rfl) (fun _ _ _ h => h) (Or.inl ⟨by rfl, ?_⟩) ?_ ?_
                rotate_left
                · intro w'
                  go_simp
                  with_reducible rfl
                rotate_left
                · simp only [Act.put, List.setIfInBounds_toArray, List.set_cons_zero, List.set_cons_succ, i64_w, i32_w]
                  rfl
                refine pure_ (i := 14) (N := some 43) (v := ?_) (a' := ?_) #[true, true, true, true, true, false, true, true, true, true, true, false, true, true, true, false, false, false, false, false, false, false, false, false] rfl rfl (by kernel_rfl) (fun _ _ _ h => h) (Or.inl ⟨by rfl, ?_⟩) ?_ ?_
                rotate_left
                · intro w'
                  go_simp
                  with_reducible rfl
                rotate_left
                · simp only [Act.put, List.setIfInBounds_toArray, List.set_cons_zero, List.set_cons_succ, i64_w, i32_w]
                  rfl
                refine pure_ (i := 15) (N := some 44) (v := ?_) (a' := ?_) #[true, true, true, true, true, false, true, true, true, true, true, false, true, true, true, true, false, false, false, false, false, false, false, false] rfl rfl (by kernel_rfl) (fun _ _ _ h => h) (Or.inl ⟨by rfl, ?_⟩) ?_ ?_
                rotate_left
                · intro w'
                  go_simp
                  with_reducible rfl
                rotate_left
                · simp only [Act.put, List.setIfInBounds_toArray, List.set_cons_zero, List.set_cons_succ, i64_w, i32_w]
                  rfl
                refine pure_ (i := 16) (N := some 45) (v := ?_) (a' := ?_) #[true, true, true, true, true, false, true, true, true, true, true, false, true, true, true, true, true, false, false, false, false, false, false, false] rfl rfl (by kernel_rfl) (fun _ _ _ h => h) (Or.inl ⟨by rfl, ?_⟩) ?_ ?_
                rotate_left
                · intro w'
                  go_simp
                  with_reducible rfl
                rotate_left
                · simp only [Act.put, List.setIfInBounds_toArray, List.set_cons_zero, List.set_cons_succ, i64_w, i32_w]
                  rfl
                refine pure_ (i := 20) (N := some 49) (v := ?_) (a' := ?_) #[true, true, true, true, true, false, true, true, true, true, true, false, true, true, true, true, true, false, false, false, true, false, false, false] rfl rfl (by kernel_rfl) (fun _ _ _ h => h) (Or.inl ⟨by rfl, ?_⟩) ?_ ?_
                rotate_left
                · intro w'
                  go_simp
                  with_reducible rfl
                rotate_left
                · simp only [Act.put, List.setIfInBounds_toArray, List.set_cons_zero, List.set_cons_succ, i64_w, i32_w]
                  rfl
                refine pure_ (i := 21) (N := some 50) (v := ?_) (a' := ?_) #[true, true, true, true, true, false, true, true, true, true, true, false, true, true, true, true, true, false, false, false, true, true, false, false] rfl rfl (by kernel_rfl) (fun _ _ _ h => h) (Or.inl ⟨by rfl, ?_⟩) ?_ ?_
                rotate_left
                · intro w'
                  go_simp
                  with_reducible rfl
                rotate_left
                · simp only [Act.put, List.setIfInBounds_toArray, List.set_cons_zero, List.set_cons_succ, i64_w, i32_w]
                  rfl
                refine take_ (i := 5) (N := some 34) (v := ?_) (a' := ?_) #[true, true, true, true, true, true, true, true, true, true, true, false, true, true, true, true, true, false, false, false, true, true, false, false] rfl rfl (by kernel_rfl) (fun _ _ _ h => h) (Or.inl ⟨by rfl, ?_⟩) hHeld ?_ ?_
                rotate_left
                · rintro w' ⟨s0, s1, s2⟩
                  go_simp
                  with_reducible rfl
                rotate_left
                · simp only [Act.put, List.setIfInBounds_toArray, List.set_cons_zero, List.set_cons_succ, i64_w, i32_w]
                  rfl
                refine take_ (i := 11) (N := some 40) (v := ?_) (a' := ?_) #[true, true, true, true, true, true, true, true, true, true, true, true, true, true, true, true, true, false, false, false, true, true, false, false] rfl rfl (by kernel_rfl) (fun _ _ _ h => h) (Or.inl ⟨by rfl, ?_⟩) hHeld ?_ ?_
                rotate_left
                · rintro w' ⟨s0, s1, s2⟩
                  go_simp
                  with_reducible rfl
                rotate_left
                · simp only [Act.put, List.setIfInBounds_toArray, List.set_cons_zero, List.set_cons_succ, i64_w, i32_w]
                  rfl
                refine take_ (i := 17) (N := some 46) (v := ?_) (a' := ?_) #[true, true, true, true, true, true, true, true, true, true, true, true, true, true, true, true, true, true, false, false, true, true, false, false] rfl rfl (by kernel_rfl) (fun _ _ _ h => h) (Or.inl ⟨by rfl, ?_⟩) hHeld ?_ ?_
                rotate_left
                · rintro w' ⟨s0, s1, s2⟩
                  go_simp
                  with_reducible rfl
                rotate_left
                · simp only [Act.put, List.setIfInBounds_toArray, List.set_cons_zero, List.set_cons_succ, i64_w, i32_w]
                  rfl
                refine one_ (i := 18) (N := some 47) #[true, true, true, true, true, true, true, true, true, true, true, true, true, true, true, true, true, true, true, false, true, true, false, false] rfl rfl (by kernel_rfl) (by decide) (fun K hK => ?_)
                refine goes_ Try.func46 (by kernel_rfl) rfl #[.int .u16 x, .int .u16 y] (by rfl) rfl rfl (by (try simp only [List.map_toArray, List.map_cons, List.map_nil]); first | done | rfl) ?_
                with_reducible refine (itm_calls H1.out H2.out _).mono ?_
                rintro e w' ⟨rfl, ⟨nd, rfl⟩⟩
                refine ⟨_, rfl, ?_⟩
                refine hK.out _ _ hHeld (fun hHeld => ?_)
                clear hK K
                refine norm_ (a' := ?_) ?_ ?_
                rotate_left
                · show Act.put _ (some 47) _ = _
                  simp only [Act.put, List.setIfInBounds_toArray, List.set_cons_zero, List.set_cons_succ, i64_w, i32_w]
                  rfl
                refine pure_ (i := 19) (N := some 48) (v := ?_) (a' := ?_) #[true, true, true, true, true, true, true, true, true, true, true, true, true, true, true, true, true, true, true, true, true, true, false, false] rfl rfl (by kernel_rfl) (fun _ _ _ h => h) (Or.inl ⟨by rfl, ?_⟩) ?_ ?_
                rotate_left
                · intro w'
                  go_simp
                  with_reducible rfl
                rotate_left
                · simp only [Act.put, List.setIfInBounds_toArray, List.set_cons_zero, List.set_cons_succ, i64_w, i32_w]
                  rfl
                refine pure_ (i := 22) (N := some 51) (v := ?_) (a' := ?_) #[true, true, true, true, true, true, true, true, true, true, true, true, true, true, true, true, true, true, true, true, true, true, true, false] rfl rfl (by kernel_rfl) (fun _ _ _ h => h) (Or.inl ⟨by rfl, ?_⟩) ?_ ?_
                rotate_left
                · intro w'
                  go_simp
                  with_reducible rfl
                rotate_left
                · simp only [Act.put, List.setIfInBounds_toArray, List.set_cons_zero, List.set_cons_succ, i64_w, i32_w]
                  rfl
                refine last_ (i := 23) (N := none) #[true, true, true, true, true, true, true, true, true, true, true, true, true, true, true, true, true, true, true, true, true, true, true, true] rfl rfl (by kernel_rfl) (by decide) (fun K hK => ?_)
                refine skip_ (w1 := ?_) (by rfl) rfl ?_ ?_
                rotate_left
                · go_simp
                  rfl
                refine hK.out _ _ ?_
                clear hK K
                refine done_ (by kernel_rfl) ?_
                go_wp2
                go_roundg (K - (k + 1))
                case measure => have := hg.out; have := HN.out; omega
                case rel => exact ⟨k + 1, Lib.hid HN.out, Lib.hid (Nat.le_refl _), by first | rfl | go_num, Lib.hid ((BKa.out.drewN nd).far NEao _ _), Lib.hid ((BKb.out.drewN nd).far NEbo _ _), Lib.hid ((BKr.out.drewN nd).far NEro _ _), Lib.hid (by have := (BKo.out.drewN nd).set (2 + i * 6 + j) (.int .u16 (Go.bits .xor .u16 d (tm x y))); rw [show 2 + i * 6 + j = i * 6 + j + 2 by omega, M_set, TS.out] at this; rw [show 2 + i * 6 + j = i * 6 + j + 2 by omega]; exact this), Lib.hid (below_set (pw_below_drewN HB.out _) GWo.out)⟩
              · have en : k = K := by have := hn.out; omega
                subst en
                have kb0 : decide ((k : Int) < (k : Int)) = false := decide_eq_false (by omega)
                have hk1 : wr.cell? ⟨ga, 1, none⟩ = some (.int .i8 (k : Int)) := BKa.out.cell 1
                have hi6 : i < 6 := by have := HRC.out; have := HNi.out; omega
                have hj6 : j < 6 := by have := HRC.out; have := HNj.out; omega
                have TS := Lib.hid (mmS_set l m k C i j hi6 hj6)
                clear hn hg hlt hi6 hj6
                go_wp2
                go_roundg (C - (j + 1))
                case measure => have := HGj.out; have := HNj.out; omega
                case rel => exact ⟨j + 1, Lib.hid HNj.out, Lib.hid (Nat.le_refl _), by first | rfl | go_num, BKa, BKb, BKr, Lib.hid (by rw [← TS.out]; exact BKo.out), HB⟩
          · have en : j = C := by have := hn.out; omega
            subst en
            have jb0 : decide ((j : Int) < (j : Int)) = false := decide_eq_false (by omega)
            have hc1 : wr.cell? ⟨gb, 1, none⟩ = some (.int .i8 (j : Int)) := BKb.out.cell 1
            clear hn hg hlt
            go_wp2
            go_roundg (R - (i + 1))
            case measure => have := HGi.out; have := HNi.out; omega
            case rel => exact ⟨i + 1, Lib.hid HNi.out, Lib.hid (Nat.le_refl _), by first | rfl | go_num, BKa, BKb, BKr, Lib.hid (by rw [← mmS_row]; exact BKo.out), HB⟩
      · have en : i = R := by have := hn.out; omega
        subst en
        have ib0 : decide ((i : Int) < (i : Int)) = false := decide_eq_false (by omega)
        have hr0 : wr.cell? ⟨ga, 0, none⟩ = some (.int .i8 (i : Int)) := BKa.out.cell 0
        clear hn hg hlt
        go_wp2_with (first
    | ((with_reducible refine wpList_ldall rfl 29 (.tmp 5) rfl go ?hx 29 (M i C (mmS l m K C i 0)) _ ?hB Try.underlying29 rfl ?hi ?_); (case hx => rfl); (case hB => exact (by (with_reducible repeat (first | apply Blk.alloc | apply Blk.drewN | apply Blk.drew)); exact BKo.out)); (case hi => rw [M_length, mmS_length]; exact inf29))
    | ((with_reducible refine wpList_stall rfl 29 4 _ rfl rfl gr ?hx (M i C (mmS l m K C i 0)) ?hy 29 (M 0 0 (List.replicate 36 0)) ?hB ?hi ?hf (M_one _ _ _) ?_); (case hx => rfl); (case hy => rfl); (case hB => exact (by (with_reducible repeat (first | apply Blk.alloc | apply Blk.drewN | apply Blk.drew)); exact BKr.out)); (case hi => rw [M_length, mmS_length]; exact inf29); (case hf => rw [M_length, mmS_length]; rfl); intro W_ hbk hfar hbel; have BKa_n := Lib.hid (Blk.other (by (with_reducible repeat (first | apply Blk.alloc | apply Blk.drewN | apply Blk.drew)); exact BKa.out) hfar NEar); have BKb_n := Lib.hid (Blk.other (by (with_reducible repeat (first | apply Blk.alloc | apply Blk.drewN | apply Blk.drew)); exact BKb.out) hfar NEbr); have BKo_n := Lib.hid (Blk.other (by (with_reducible repeat (first | apply Blk.alloc | apply Blk.drewN | apply Blk.drew)); exact BKo.out) hfar NEor); have HB_n := Lib.hid (hbel _ _ (by repeat (first | (with_reducible first | exact HB.out | apply below_alloc | apply pw_below_drewN | apply below_drew) | exact HB.out)) GWr.out); have BKr_n := Lib.hid (hbk); clear BKa; have BKa := BKa_n; clear BKa_n; clear BKb; have BKb := BKb_n; clear BKb_n; clear BKo; have BKo := BKo_n; clear BKo_n; clear HB; have HB := HB_n; clear HB_n; clear BKr; have BKr := BKr_n; clear BKr_n; clear hbk hfar hbel))
        exact bodyPost_ret (results_cell_row Try.results52 _ _ gr 29 _ (0, 0) _ rfl BKr.out Try.underlying29 rfl (by simp only [List.size_toArray]; rw [M_length, mmS_length]; exact inf29)) rfl ⟨rfl, HB.out⟩

end Go.Proofs.Ythjbeglmdifhdaa.Given
