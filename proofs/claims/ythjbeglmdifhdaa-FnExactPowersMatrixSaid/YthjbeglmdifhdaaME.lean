/- Walks of functions that the print does not take. -/
import Derived.Test.YthjbeglmdifhdaaProg
import Derived.Below
import Derived.Deep.Draws
import Derived.Deep.AppendLies
import Derived.Maps.AppendAt
import Derived.OwnWalk
import Derived.Laws.BytesArg
import Derived.Laws.MakeOwn
import Derived.Laws.OwnMore
import Derived.Deep.OwnRows
import Derived.Tactics
import Derived.Lib.ConvBytes
import Derived.Laws.Slices
import Derived.WalkKit
import Derived.KernelRfl
import Derived.RowKit3
import Derived.Deep.LoopGhost
import Derived.Deep.QuietTactic
import Derived.BigQuiet
import Derived.WideLaws
import Derived.Deep.DeepCutAuto
import Derived.Deep.CutBlock
import Derived.Deep.RegionHeld3
import Derived.Laws.Rows
import Derived.Lib.AppendStr
import Derived.ArgAppend
import Derived.Laws.IdiomCopy
import Derived.OrdersHeld
import Derived.Laws.BitsLemmas
import Derived.RowKit
import Derived.Lib.Hide
import Derived.WalkSpells
import Derived.Test.YthjbeglmdifhdaaWWords
import Derived.Test.YthjbeglmdifhdaaWLast
import Derived.Test.YthjbeglmdifhdaaWTab
import Derived.Test.YthjbeglmdifhdaaWFour
import Derived.Test.YthjbeglmdifhdaaWQPut
import Derived.Test.YthjbeglmdifhdaaWApart
import Derived.Test.YthjbeglmdifhdaaWArr
import Derived.Test.YthjbeglmdifhdaaWZeros
import Derived.Test.YthjbeglmdifhdaaWFoot
import Derived.Test.YthjbeglmdifhdaaWKept
import Derived.Test.YthjbeglmdifhdaaWShare
import Derived.Test.YthjbeglmdifhdaaWN
import Derived.Test.YthjbeglmdifhdaaWFootNe
import Derived.Test.YthjbeglmdifhdaaWAt
import Derived.Test.YthjbeglmdifhdaaWEqStruct
import Derived.Test.YthjbeglmdifhdaaWRepsOne
import Derived.Test.YthjbeglmdifhdaaWInv
import Derived.Test.YthjbeglmdifhdaaWInvWords
import Derived.Test.YthjbeglmdifhdaaWGuard
import Derived.Test.YthjbeglmdifhdaaWNEv
import Derived.Test.YthjbeglmdifhdaaWMore
import Derived.Test.YthjbeglmdifhdaaN1
import Derived.Test.YthjbeglmdifhdaaMD
import Derived.Test.YthjbeglmdifhdaaG1
namespace Go.Proofs.Ythjbeglmdifhdaa.Given
open Go.RowKit Go.Proofs.YthjbeglmdifhdaaW.PrintWords Go.Proofs.YthjbeglmdifhdaaW.PrintLast Go.Proofs.YthjbeglmdifhdaaW.PrintMore Go.Proofs.Ythjbeglmdifhdaa.NimF Go.Proofs.Ythjbeglmdifhdaa.NimGo
set_option linter.unusedVariables false
set_option linter.unusedSimpArgs false
/-- the product, as a number of 16 bits -/
def tm (a b : Int) : Int := ((nm 4 a.toNat b.toNat : Nat) : Int)
def w16 (a : Int) : Prop := 0 ≤ a ∧ a < 65536
theorem tm_times {a b : Int} (ha : w16 a) (hb : w16 b) : nimTimes a b = some (tm a b) := by
  unfold nimTimes tm
  rw [if_pos ⟨by have := ha.2; have := ha.1; omega, by have := hb.2; have := hb.1; omega, by have := ha.1; omega, by have := hb.1; omega⟩]
theorem stm_calls {a b : Int} (ha : w16 a) (hb : w16 b) (w : World) : Calls Try.prog 39 #[.int .u16 a, .int .u16 b] w fun e w' => e = .returned (.int .u16 (tm a b)) ∧ Drawn0 w w' := spec_l01Times.calls a b _ w (tm_times ha hb)
theorem itm_calls {a b : Int} (ha : w16 a) (hb : w16 b) (w : World) : Calls Try.prog 46 #[.int .u16 a, .int .u16 b] w fun e w' => e = .returned (.int .u16 (tm a b)) ∧ Drawn0 w w' := impl_times.calls a b _ w (tm_times ha hb)
def W16 (l : List Int) : Prop := ∀ x ∈ l, w16 x
theorem W16.at_ {l : List Int} (h : W16 l) {n : Nat} (hn : n < l.length) : w16 (l.getD n 0) := by
  have e : l.getD n 0 = l[n] := by simp [List.getD, hn]
  rw [e]; exact h _ (List.getElem_mem hn)
theorem tm16 (a b : Int) : w16 (tm a b) := ⟨Int.natCast_nonneg _, by unfold tm; have := nm4_lt a.toNat b.toNat; omega⟩
/-- the first so many multiplied -/
def sc (l : List Int) (b : Int) (n : Nat) : List Int := (l.take n).map (fun x => tm x b) ++ l.drop n
theorem sc_length (l : List Int) (b : Int) (n : Nat) : (sc l b n).length = l.length := by
  unfold sc; rw [List.length_append, List.length_map, List.length_take, List.length_drop]; omega
theorem sc_at (l : List Int) (b : Int) (n : Nat) (h : n < l.length) : (sc l b n).getD n 0 = l.getD n 0 := by
  have h1 : ((l.take n).map (fun x => tm x b)).length = n := by rw [List.length_map, List.length_take]; omega
  unfold sc
  simp only [List.getD]
  rw [List.getElem?_append_right (by omega), h1, Nat.sub_self, List.getElem?_drop, Nat.add_zero]
theorem sc_set (l : List Int) (b : Int) (n : Nat) (h : n < l.length) : (sc l b n).set n (tm (l.getD n 0) b) = sc l b (n + 1) := by
  have h1 : ((l.take n).map (fun x => tm x b)).length = n := by rw [List.length_map, List.length_take]; omega
  have e3 : l.getD n 0 = l[n] := by simp [List.getD, h]
  unfold sc
  rw [List.set_append_right _ _ (by omega), h1, Nat.sub_self, List.drop_eq_getElem_cons h, List.set_cons_zero, List.take_add_one, List.getElem?_eq_getElem h, List.map_append, e3, List.append_assoc]
  rfl
theorem sc_all (l : List Int) (b : Int) : sc l b l.length = l.map (fun x => tm x b) := by simp [sc]

set_option maxHeartbeats 8000000 in
set_option maxRecDepth 100000 in
theorem specScale_calls (r c : Int) (l : List Int) (b : Int) (hl : l.length = 36) (h1 : -128 ≤ r) (h2 : r ≤ 127) (h3 : -128 ≤ c) (h4 : c ≤ 127) (hw : W16 l) (hb : w16 b) (w : World) :
    Calls Try.prog 16 #[.agg (M r c l).toArray, .int .u16 b] w fun e w' => e = .returned (if okM r c l = true then .tuple #[.agg (M r c (l.map fun x => tm x b)).toArray, .int .i64 0] else .tuple #[.agg (M 0 0 (List.replicate 36 0)).toArray, .int .i64 1]) ∧ Below w.heap.size w w' := by
  have HL := Lib.hid hl
  have HW := Lib.hid hw
  have Hb := Lib.hid hb
  have HOK := Lib.hid (fun g W (hB : Blk W g 29 (M r c l)) => l02Ok_calls r c l hl h1 h2 h3 h4 g W hB _ rfl)
  clear hl h1 h2 h3 h4 hw hb
  have HB := Lib.hid (Below.refl w.heap.size w)
  obtain ⟨v, hv⟩ : ∃ v, okM r c l = v := ⟨_, rfl⟩
  rw [hv] at HOK ⊢
  clear hv
  cases v with
  | false =>
    rw [if_neg (by simp)]
    go_enter Try.func16, Try.ntmps16
    go_wp2_with (first
    | ((with_reducible refine gate_dst (N := 2) rfl ?_); refine box_event ?hg (N := 2) ?hd (cs := (M r c l).toArray) (t := 29) ?hr ?_; (case hd => rfl); (case hg => rfl); (case hr => first | (go_simp; done) | (go_simp; rfl)); intro ga hg Wa hbox hb; have GWa := Lib.hid ((by rw [hg]; exact below_size (w := w) (by repeat (first | (with_reducible first | exact HB.out | apply below_alloc | apply pw_below_drewN | apply below_drew) | exact HB.out))) : w.heap.size ≤ ga); have HB_n := Lib.hid (below_step (w := w) (by repeat (first | (with_reducible first | exact HB.out | apply below_alloc | apply pw_below_drewN | apply below_drew) | exact HB.out)) hb); clear HB; have HB := HB_n; clear HB_n; have BKa := Lib.hid (show Blk Wa ga 29 (M r c l) from hbox); clear hbox hg hb)
    | ((with_reducible refine gate_dst (N := 4) rfl ?_); refine box_event ?hg (N := 4) ?hd (cs := (M 0 0 (List.replicate 36 0)).toArray) (t := 29) ?hr ?_; (case hd => rfl); (case hg => rfl); (case hr => first | (go_simp; done) | (go_simp; rfl)); intro gr hg Wr hbox hb; have GWr := Lib.hid ((by rw [hg]; exact below_size (w := w) (by repeat (first | (with_reducible first | exact HB.out | apply below_alloc | apply pw_below_drewN | apply below_drew) | exact HB.out))) : w.heap.size ≤ gr); have NEar : ga ≠ gr := (by rw [hg]; exact Nat.ne_of_lt (Blk.lt (by (with_reducible repeat (first | apply Blk.alloc | apply Blk.drewN | apply Blk.drew)); exact BKa.out))); have NEra : gr ≠ ga := NEar.symm; have BKa_n := Lib.hid (Blk.below (by (with_reducible repeat (first | apply Blk.alloc | apply Blk.drewN | apply Blk.drew)); exact BKa.out) hb); have HB_n := Lib.hid (below_step (w := w) (by repeat (first | (with_reducible first | exact HB.out | apply below_alloc | apply pw_below_drewN | apply below_drew) | exact HB.out)) hb); clear BKa; have BKa := BKa_n; clear BKa_n; clear HB; have HB := HB_n; clear HB_n; have BKr := Lib.hid (show Blk Wr gr 29 (M 0 0 (List.replicate 36 0)) from hbox); clear hbox hg hb)
    | (go_at_call 43; (with_reducible refine (HOK.out _ _ ?hB).mono ?_); (case hB => exact BKa.out); rintro e W_ ⟨rfl, hb⟩; have BKa_n := Lib.hid (Blk.below (by (with_reducible repeat (first | apply Blk.alloc | apply Blk.drewN | apply Blk.drew)); exact BKa.out) hb); have BKr_n := Lib.hid (Blk.below (by (with_reducible repeat (first | apply Blk.alloc | apply Blk.drewN | apply Blk.drew)); exact BKr.out) hb); have HB_n := Lib.hid (below_step (w := w) (by repeat (first | (with_reducible first | exact HB.out | apply below_alloc | apply pw_below_drewN | apply below_drew) | exact HB.out)) hb); clear BKa; have BKa := BKa_n; clear BKa_n; clear BKr; have BKr := BKr_n; clear BKr_n; clear HB; have HB := HB_n; clear HB_n; clear hb)
    | ((with_reducible refine wpList_stall rfl 29 4 _ rfl rfl gr ?hx (M 0 0 (List.replicate 36 0)) ?hy 29 (M 0 0 (List.replicate 36 0)) ?hB ?hi ?hf (M_one _ _ _) ?_); (case hx => rfl); (case hy => rfl); (case hB => exact (by (with_reducible repeat (first | apply Blk.alloc | apply Blk.drewN | apply Blk.drew)); exact BKr.out)); (case hi => rw [M_length, List.length_replicate]; exact inf29); (case hf => rfl); intro W_ hbk hfar hbel; have BKa_n := Lib.hid (Blk.other (by (with_reducible repeat (first | apply Blk.alloc | apply Blk.drewN | apply Blk.drew)); exact BKa.out) hfar NEar); have HB_n := Lib.hid (hbel _ _ (by repeat (first | (with_reducible first | exact HB.out | apply below_alloc | apply pw_below_drewN | apply below_drew) | exact HB.out)) GWr.out); have BKr_n := Lib.hid (hbk); clear BKa; have BKa := BKa_n; clear BKa_n; clear HB; have HB := HB_n; clear HB_n; clear BKr; have BKr := BKr_n; clear BKr_n; clear hbk hfar hbel))
    exact bodyPost_ret (results_ct Try.results16 _ _ gr 29 _ (0, 0) _ rfl BKr.out Try.underlying29 rfl inf29) rfl ⟨rfl, HB.out⟩
  | true =>
    rw [if_pos rfl]
    go_enter Try.func16, Try.ntmps16
    go_wp2_with (first
    | ((with_reducible refine gate_dst (N := 2) rfl ?_); refine box_event ?hg (N := 2) ?hd (cs := (M r c l).toArray) (t := 29) ?hr ?_; (case hd => rfl); (case hg => rfl); (case hr => first | (go_simp; done) | (go_simp; rfl)); intro ga hg Wa hbox hb; have GWa := Lib.hid ((by rw [hg]; exact below_size (w := w) (by repeat (first | (with_reducible first | exact HB.out | apply below_alloc | apply pw_below_drewN | apply below_drew) | exact HB.out))) : w.heap.size ≤ ga); have HB_n := Lib.hid (below_step (w := w) (by repeat (first | (with_reducible first | exact HB.out | apply below_alloc | apply pw_below_drewN | apply below_drew) | exact HB.out)) hb); clear HB; have HB := HB_n; clear HB_n; have BKa := Lib.hid (show Blk Wa ga 29 (M r c l) from hbox); clear hbox hg hb)
    | ((with_reducible refine gate_dst (N := 4) rfl ?_); refine box_event ?hg (N := 4) ?hd (cs := (M 0 0 (List.replicate 36 0)).toArray) (t := 29) ?hr ?_; (case hd => rfl); (case hg => rfl); (case hr => first | (go_simp; done) | (go_simp; rfl)); intro gr hg Wr hbox hb; have GWr := Lib.hid ((by rw [hg]; exact below_size (w := w) (by repeat (first | (with_reducible first | exact HB.out | apply below_alloc | apply pw_below_drewN | apply below_drew) | exact HB.out))) : w.heap.size ≤ gr); have NEar : ga ≠ gr := (by rw [hg]; exact Nat.ne_of_lt (Blk.lt (by (with_reducible repeat (first | apply Blk.alloc | apply Blk.drewN | apply Blk.drew)); exact BKa.out))); have NEra : gr ≠ ga := NEar.symm; have BKa_n := Lib.hid (Blk.below (by (with_reducible repeat (first | apply Blk.alloc | apply Blk.drewN | apply Blk.drew)); exact BKa.out) hb); have HB_n := Lib.hid (below_step (w := w) (by repeat (first | (with_reducible first | exact HB.out | apply below_alloc | apply pw_below_drewN | apply below_drew) | exact HB.out)) hb); clear BKa; have BKa := BKa_n; clear BKa_n; clear HB; have HB := HB_n; clear HB_n; have BKr := Lib.hid (show Blk Wr gr 29 (M 0 0 (List.replicate 36 0)) from hbox); clear hbox hg hb)
    | (go_at_call 43; (with_reducible refine (HOK.out _ _ ?hB).mono ?_); (case hB => exact BKa.out); rintro e W_ ⟨rfl, hb⟩; have BKa_n := Lib.hid (Blk.below (by (with_reducible repeat (first | apply Blk.alloc | apply Blk.drewN | apply Blk.drew)); exact BKa.out) hb); have BKr_n := Lib.hid (Blk.below (by (with_reducible repeat (first | apply Blk.alloc | apply Blk.drewN | apply Blk.drew)); exact BKr.out) hb); have HB_n := Lib.hid (below_step (w := w) (by repeat (first | (with_reducible first | exact HB.out | apply below_alloc | apply pw_below_drewN | apply below_drew) | exact HB.out)) hb); clear BKa; have BKa := BKa_n; clear BKa_n; clear BKr; have BKr := BKr_n; clear BKr_n; clear HB; have HB := HB_n; clear HB_n; clear hb))
    go_loopg [6] 6 (fun gg v3 wr => ∃ i : Nat, Hid (i ≤ 6) ∧ Hid (6 - i ≤ gg) ∧ v3 = .int .i64 (i : Int) ∧ Hid (Blk wr ga 29 (M r c (sc l b (i * 6)))) ∧ Hid (Blk wr gr 29 (M 0 0 (List.replicate 36 0))) ∧ Hid (Below w.heap.size w wr))
    case atStart => exact ⟨0, Lib.hid (Nat.zero_le _), Lib.hid (Nat.sub_le _ _), rfl, Lib.hid (by have := BKa.out; simpa [sc] using this), BKr, HB⟩
    case round =>
      clear BKa HB BKr
      obtain ⟨i, hn, hg, rfl, BKa, BKr, HB⟩ := hrel
      by_cases hlt : i < 6
      · have hb0 : decide ((i : Int) < 6) = true := decide_eq_true (by omega)
        have hb1 : (i : Int) < 6 := by omega
        have hi0 : (0 : Int) ≤ (i : Int) := by omega
        have hib : i < 9223372036854775807 := by omega
        have HNi := Lib.hid hlt
        have HGi := Lib.hid hg.out
        clear hlt hn hg
        go_wp2
        go_loopg [7] 6 (fun gg v4 wq => ∃ k : Nat, Hid (k ≤ 6) ∧ Hid (6 - k ≤ gg) ∧ v4 = .int .i64 (k : Int) ∧ Hid (Blk wq ga 29 (M r c (sc l b (i * 6 + k)))) ∧ Hid (Blk wq gr 29 (M 0 0 (List.replicate 36 0))) ∧ Hid (Below w.heap.size w wq))
        case atStart => exact ⟨0, Lib.hid (Nat.zero_le _), Lib.hid (Nat.sub_le _ _), rfl, BKa, BKr, HB⟩
        case round =>
          clear BKa HB BKr
          obtain ⟨k, hn, hg, rfl, BKa, BKr, HB⟩ := hrel
          by_cases hlt : k < 6
          · have hN : i * 6 + k < l.length := by rw [HL.out]; have := HNi.out; omega
            have hx := (BKa.out.cell (i * 6 + k + 2)).trans (M_get (by rw [sc_length]; exact hN))
            rw [sc_at _ _ _ hN, show i * 6 + k + 2 = 2 + i * 6 + k by omega] at hx
            have hf := BKa.out.frozen (2 + i * 6 + k)
            have TS := Lib.hid (sc_set l b (i * 6 + k) hN)
            have HX := Lib.hid (HW.out.at_ hN)
            generalize l.getD (i * 6 + k) 0 = x at hx TS HX
            have kb0 : decide ((k : Int) < 6) = true := decide_eq_true (by omega)
            have kb1 : (k : Int) < 6 := by omega
            have ki0 : (0 : Int) ≤ (k : Int) := by omega
            have kib : k < 9223372036854775807 := by omega
            have HN := Lib.hid hlt
            clear hlt hn hN
            go_wp2
            have hf_d : wr.drew.frozen? ⟨ga, 2 + i * 6 + k, none⟩ = false := hf
            clear hf
            have BKa_n := Lib.hid (Blk.drew BKa.out)
            have BKr_n := Lib.hid (Blk.drew BKr.out)
            have HB_n := Lib.hid (below_drew HB.out)
            clear BKa
            have BKa := BKa_n
            clear BKa_n
            clear BKr
            have BKr := BKr_n
            clear BKr_n
            clear HB
            have HB := HB_n
            clear HB_n
            refine start_ (n := 14) (S := fun w' => w'.cell? ⟨ga, 2 + i * 6 + k, none⟩ = some (.int .u16 x)) (ds := [13]) #[false, false, false, false, false, false, false, false, false, false, false, false, false, false] (by kernel_rfl) rfl rfl hx (fun hHeld => ?_)
            have hx_d : wr.drew.cell? ⟨ga, 2 + i * 6 + k, none⟩ = some (.int .u16 x) := hx
            clear hx
            generalize wr.drew = W24 at BKa BKr HB hx_d hf_d hHeld ⊢
            refine pure_ (i := 0) (N := some 19) (v := ?_) (a' := ?_) #[true, false, false, false, false, false, false, false, false, false, false, false, false, false] rfl rfl (by kernel_rfl) (fun _ _ _ h => h) (Or.inl ⟨by rfl, ?_⟩) ?_ ?_
            rotate_left
            · intro w'
              go_simp
              with_reducible rfl
            rotate_left
            · simp only [Act.put, List.setIfInBounds_toArray, List.set_cons_zero, List.set_cons_succ, i64_w, i32_w]
              rfl
            refine pure_ (i := 1) (N := some 20) (v := ?_) (a' := ?_) #[true, true, false, false, false, false, false, false, false, false, false, false, false, false] rfl rfl (by kernel_rfl) (fun _ _ _ h => h) (Or.inl ⟨by rfl, ?_⟩) ?_ ?_
            rotate_left
            · intro w'
              go_simp
              with_reducible rfl
            rotate_left
            · simp only [Act.put, List.setIfInBounds_toArray, List.set_cons_zero, List.set_cons_succ, i64_w, i32_w]
              rfl
            refine pure_ (i := 2) (N := some 21) (v := ?_) (a' := ?_) #[true, true, true, false, false, false, false, false, false, false, false, false, false, false] rfl rfl (by kernel_rfl) (fun _ _ _ h => h) (Or.inl ⟨by rfl, ?_⟩) ?_ ?_
            rotate_left
            · intro w'
              go_simp
              with_reducible rfl
            rotate_left
            · simp only [Act.put, List.setIfInBounds_toArray, List.set_cons_zero, List.set_cons_succ, i64_w, i32_w]
              rfl
            refine pure_ (i := 3) (N := some 22) (v := ?_) (a' := ?_) #[true, true, true, true, false, false, false, false, false, false, false, false, false, false] rfl rfl (by kernel_rfl) (fun _ _ _ h => h) (Or.inl ⟨by rfl, ?_⟩) ?_ ?_
            rotate_left
            · intro w'
              go_simp
              with_reducible rfl
            rotate_left
            · simp only [Act.put, List.setIfInBounds_toArray, List.set_cons_zero, List.set_cons_succ, i64_w, i32_w]
              rfl
            refine pure_ (i := 4) (N := some 23) (v := ?_) (a' := ?_) #[true, true, true, true, true, false, false, false, false, false, false, false, false, false] rfl rfl (by kernel_rfl) (fun _ _ _ h => h) (Or.inl ⟨by rfl, ?_⟩) ?_ ?_
            rotate_left
            · intro w'
              go_simp
              with_reducible rfl
            rotate_left
            · simp only [Act.put, List.setIfInBounds_toArray, List.set_cons_zero, List.set_cons_succ, i64_w, i32_w]
              rfl
            refine pure_ (i := 5) (N := some 24) (v := ?_) (a' := ?_) #[true, true, true, true, true, true, false, false, false, false, false, false, false, false] rfl rfl (by kernel_rfl) (fun _ _ _ h => h) (Or.inl ⟨by rfl, ?_⟩) ?_ ?_
            rotate_left
            · intro w'
              go_simp
              with_reducible rfl
            rotate_left
            · simp only [Act.put, List.setIfInBounds_toArray, List.set_cons_zero, List.set_cons_succ, i64_w, i32_w]
              rfl
            refine pure_ (i := 6) (N := some 25) (v := ?_) (a' := ?_) #[true, true, true, true, true, true, true, false, false, false, false, false, false, false] rfl rfl (by kernel_rfl) (fun _ _ _ h => h) (Or.inl ⟨by rfl, ?_⟩) ?_ ?_
            rotate_left
            · intro w'
              go_simp
              with_reducible rfl
            rotate_left
            · simp only [Act.put, List.setIfInBounds_toArray, List.set_cons_zero, List.set_cons_succ, i64_w, i32_w]
              rfl
            refine pure_ (i := 8) (N := some 27) (v := ?_) (a' := ?_) #[true, true, true, true, true, true, true, false, true, false, false, false, false, false] rfl rfl (by kernel_rfl) (fun _ _ _ h => h) (Or.inl ⟨by rfl, ?_⟩) ?_ ?_
            rotate_left
            · intro w'
              go_simp
              with_reducible rfl
            rotate_left
            · simp only [Act.put, List.setIfInBounds_toArray, List.set_cons_zero, List.set_cons_succ, i64_w, i32_w]
              rfl
            refine pure_ (i := 10) (N := some 29) (v := ?_) (a' := ?_) #[true, true, true, true, true, true, true, false, true, false, true, false, false, false] rfl rfl (by kernel_rfl) (fun _ _ _ h => h) (Or.inl ⟨by rfl, ?_⟩) ?_ ?_
            rotate_left
            · intro w'
              go_simp
              with_reducible rfl
            rotate_left
            · simp only [Act.put, List.setIfInBounds_toArray, List.set_cons_zero, List.set_cons_succ, i64_w, i32_w]
              rfl
            refine pure_ (i := 11) (N := some 30) (v := ?_) (a' := ?_) #[true, true, true, true, true, true, true, false, true, false, true, true, false, false] rfl rfl (by kernel_rfl) (fun _ _ _ h => h) (Or.inl ⟨by rfl, ?_⟩) ?_ ?_
            rotate_left
            · intro w'
              go_simp
              with_reducible rfl
            rotate_left
            · simp only [Act.put, List.setIfInBounds_toArray, List.set_cons_zero, List.set_cons_succ, i64_w, i32_w]
              rfl
            refine take_ (i := 7) (N := some 26) (v := ?_) (a' := ?_) #[true, true, true, true, true, true, true, true, true, false, true, true, false, false] rfl rfl (by kernel_rfl) (fun _ _ _ h => h) (Or.inl ⟨by rfl, ?_⟩) hHeld ?_ ?_
            rotate_left
            · intro w' s0
              go_simp
              with_reducible rfl
            rotate_left
            · simp only [Act.put, List.setIfInBounds_toArray, List.set_cons_zero, List.set_cons_succ, i64_w, i32_w]
              rfl
            refine one_ (i := 9) (N := some 28) #[true, true, true, true, true, true, true, true, true, true, true, true, false, false] rfl rfl (by kernel_rfl) (by decide) (fun K hK => ?_)
            refine goes_ Try.func39 (by kernel_rfl) rfl #[.int .u16 x, .int .u16 b] (by rfl) rfl rfl (by (try simp only [List.map_toArray, List.map_cons, List.map_nil]); first | done | rfl) ?_
            with_reducible refine (stm_calls HX.out Hb.out _).mono ?_
            rintro e w' ⟨rfl, ⟨nd, rfl⟩⟩
            refine ⟨_, rfl, ?_⟩
            refine hK.out _ _ hHeld (fun hHeld => ?_)
            clear hK K
            refine norm_ (a' := ?_) ?_ ?_
            rotate_left
            · show Act.put _ (some 28) _ = _
              simp only [Act.put, List.setIfInBounds_toArray, List.set_cons_zero, List.set_cons_succ, i64_w, i32_w]
              rfl
            refine pure_ (i := 12) (N := some 31) (v := ?_) (a' := ?_) #[true, true, true, true, true, true, true, true, true, true, true, true, true, false] rfl rfl (by kernel_rfl) (fun _ _ _ h => h) (Or.inl ⟨by rfl, ?_⟩) ?_ ?_
            rotate_left
            · intro w'
              go_simp
              with_reducible rfl
            rotate_left
            · simp only [Act.put, List.setIfInBounds_toArray, List.set_cons_zero, List.set_cons_succ, i64_w, i32_w]
              rfl
            refine last_ (i := 13) (N := none) #[true, true, true, true, true, true, true, true, true, true, true, true, true, true] rfl rfl (by kernel_rfl) (by decide) (fun K hK => ?_)
            refine skip_ (w1 := ?_) (by rfl) rfl ?_ ?_
            rotate_left
            · go_simp
              rfl
            refine hK.out _ _ ?_
            clear hK K
            refine done_ (by kernel_rfl) ?_
            go_wp2
            go_roundg (6 - (k + 1))
            case measure => have := hg.out; have := HN.out; omega
            case rel => exact ⟨k + 1, Lib.hid HN.out, Lib.hid (Nat.le_refl _), by first | rfl | go_num, Lib.hid (by have := (BKa.out.drewN nd).set (2 + i * 6 + k) (.int .u16 (tm x b)); rw [show 2 + i * 6 + k = i * 6 + k + 2 by omega, M_set, TS.out] at this; rw [show 2 + i * 6 + k = i * 6 + k + 2 by omega]; exact this), Lib.hid ((BKr.out.drewN nd).far NEra _ _), Lib.hid (below_set (pw_below_drewN HB.out _) GWa.out)⟩
          · have en : k = 6 := by have := hn.out; omega
            subst en
            clear hn hg hlt
            go_wp2
            go_roundg (6 - (i + 1))
            case measure => have := HGi.out; have := HNi.out; omega
            case rel => exact ⟨i + 1, Lib.hid HNi.out, Lib.hid (Nat.le_refl _), by first | rfl | go_num, Lib.hid (by rw [show (i + 1) * 6 = i * 6 + 6 by omega]; exact BKa.out), BKr, HB⟩
      · have en : i = 6 := by have := hn.out; omega
        subst en
        have BKa2 : Hid (Blk wr ga 29 (M r c (l.map fun x => tm x b))) := Lib.hid (by have := BKa.out; rw [show 6 * 6 = l.length by rw [HL.out], sc_all] at this; exact this)
        clear hn hg hlt BKa
        have BKa := BKa2
        clear BKa2
        go_wp2_with (first
    | ((with_reducible refine wpList_ldall rfl 29 (.tmp 2) rfl ga ?hx 29 (M r c (l.map fun x => tm x b)) _ ?hB Try.underlying29 rfl ?hi ?_); (case hx => rfl); (case hB => exact (by (with_reducible repeat (first | apply Blk.alloc | apply Blk.drewN | apply Blk.drew)); exact BKa.out)); (case hi => rw [M_length, List.length_map, HL.out]; exact inf29))
    | ((with_reducible refine wpList_stall rfl 29 4 _ rfl rfl gr ?hx (M r c (l.map fun x => tm x b)) ?hy 29 (M 0 0 (List.replicate 36 0)) ?hB ?hi ?hf (M_one _ _ _) ?_); (case hx => rfl); (case hy => rfl); (case hB => exact (by (with_reducible repeat (first | apply Blk.alloc | apply Blk.drewN | apply Blk.drew)); exact BKr.out)); (case hi => rw [M_length, List.length_map, HL.out]; exact inf29); (case hf => rw [M_length, M_length, List.length_map, HL.out]; rfl); intro W_ hbk hfar hbel; have BKa_n := Lib.hid (Blk.other (by (with_reducible repeat (first | apply Blk.alloc | apply Blk.drewN | apply Blk.drew)); exact BKa.out) hfar NEar); have HB_n := Lib.hid (hbel _ _ (by repeat (first | (with_reducible first | exact HB.out | apply below_alloc | apply pw_below_drewN | apply below_drew) | exact HB.out)) GWr.out); have BKr_n := Lib.hid (hbk); clear BKa; have BKa := BKa_n; clear BKa_n; clear HB; have HB := HB_n; clear HB_n; clear BKr; have BKr := BKr_n; clear BKr_n; clear hbk hfar hbel))
        exact bodyPost_ret (results_ct Try.results16 _ _ gr 29 _ (0, 0) _ rfl BKr.out Try.underlying29 rfl (by simp only [List.size_toArray]; rw [M_length, List.length_map, HL.out]; exact inf29)) rfl ⟨rfl, HB.out⟩

end Go.Proofs.Ythjbeglmdifhdaa.Given
