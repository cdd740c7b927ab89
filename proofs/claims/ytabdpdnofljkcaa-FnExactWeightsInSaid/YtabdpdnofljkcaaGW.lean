/- Walks of functions that the print does not take. -/
import Derived.Test.YtabdpdnofljkcaaProg
import Derived.Below
import Derived.Deep.Draws
import Derived.Deep.AppendLies
import Derived.Maps.AppendAt
import Derived.OwnWalk
import Derived.Laws.BytesArg
import Derived.Laws.MakeOwn
import Derived.Laws.OwnMore
import Derived.Deep.OwnRows
import Derived.Tactics
import Derived.Lib.ConvBytes
import Derived.Laws.Slices
import Derived.WalkKit
import Derived.KernelRfl
import Derived.RowKit3
import Derived.Deep.LoopGhost
import Derived.Deep.QuietTactic
import Derived.BigQuiet
import Derived.WideLaws
import Derived.Deep.DeepCutAuto
import Derived.Deep.CutBlock
import Derived.Deep.RegionHeld3
import Derived.Laws.Rows
import Derived.Lib.AppendStr
import Derived.ArgAppend
import Derived.Laws.IdiomCopy
import Derived.OrdersHeld
import Derived.Laws.BitsLemmas
import Derived.RowKit
import Derived.Lib.Hide
import Derived.WalkSpells
import Derived.Test.YtabdpdnofljkcaaWWords
import Derived.Test.YtabdpdnofljkcaaWLast
import Derived.Test.YtabdpdnofljkcaaWTab
import Derived.Test.YtabdpdnofljkcaaWFour
import Derived.Test.YtabdpdnofljkcaaWQPut
import Derived.Test.YtabdpdnofljkcaaWApart
import Derived.Test.YtabdpdnofljkcaaWArr
import Derived.Test.YtabdpdnofljkcaaWZeros
import Derived.Test.YtabdpdnofljkcaaWFoot
import Derived.Test.YtabdpdnofljkcaaWKept
import Derived.Test.YtabdpdnofljkcaaWShare
import Derived.Test.YtabdpdnofljkcaaWN
import Derived.Test.YtabdpdnofljkcaaWFootNe
import Derived.Test.YtabdpdnofljkcaaWAt
import Derived.Test.YtabdpdnofljkcaaWEqStruct
import Derived.Test.YtabdpdnofljkcaaWRepsOne
import Derived.Test.YtabdpdnofljkcaaWInv
import Derived.Test.YtabdpdnofljkcaaWInvWords
import Derived.Test.YtabdpdnofljkcaaWGuard
import Derived.Test.YtabdpdnofljkcaaWNEv
import Derived.Test.YtabdpdnofljkcaaWMore
import Derived.Test.YtabdpdnofljkcaaN1
import Derived.Test.YtabdpdnofljkcaaRFnExactLeastApartOfx2
import Derived.Test.YtabdpdnofljkcaaRSWx1
import Derived.Test.YtabdpdnofljkcaaPlainFnExactLeastApartOf
namespace Go.Proofs.Ytabdpdnofljkcaa.Given
open Go.RowKit Go.Proofs.YtabdpdnofljkcaaW.PrintWords Go.Proofs.YtabdpdnofljkcaaW.PrintLast Go.Proofs.YtabdpdnofljkcaaW.PrintMore Go.Proofs.Ytabdpdnofljkcaa.NimF Go.Proofs.Ytabdpdnofljkcaa.NimGo
set_option linter.unusedVariables false
set_option linter.unusedSimpArgs false
open Go.Proofs.Ytabdpdnofljkcaa.RFnExactLeastApartOf
/-- eight numbers as the cells of an array -/
def a8 (l : List Int) : Array Value := (l.map (Value.int .i64)).toArray
theorem a8_size (l : List Int) : (a8 l).size = l.length := by simp [a8]
theorem a8_get {l : List Int} {n : Nat} (h : n < l.length) : (a8 l)[n]? = some (.int .i64 (l.getD n 0)) := by
  simp [a8, List.getD, h]
set_option maxHeartbeats 1000000 in
theorem eqA8_calls (l : List Int) (hl : l.length = 8) (w : World) : Calls Try.prog 13 #[.agg (a8 l), .agg (a8 l)] w fun e w' => e = .returned (.bool true) ∧ Below w.heap.size w w' := by
  have HG := Lib.hid (fun n (h : n < 8) => a8_get (l := l) (n := n) (by omega))
  clear hl
  generalize a8 l = c at HG ⊢
  have HB : Hid (Below w.heap.size w ((w.alloc (.cells c 24)).alloc (.cells c 24))) := Lib.hid (((Below.refl _ w).alloc (Nat.le_refl _) _).alloc (by simp) _)
  go_enter Try.func13, Try.ntmps13
  go_wp2
  go_loopg [5] 8 (fun gg v5 wr => ∃ n : Nat, Hid (n ≤ 8) ∧ Hid (8 - n ≤ gg) ∧ v5 = .int .i64 (n : Int) ∧ Drawn0 ((w.alloc (.cells c 24)).alloc (.cells c 24)) wr)
  case atStart => exact ⟨0, Lib.hid (Nat.zero_le _), Lib.hid (Nat.sub_le _ _), rfl, Drawn0.refl _⟩
  case round =>
    obtain ⟨n, hn, hg, rfl, ⟨m1, rfl⟩⟩ := hrel
    by_cases hlt : n < 8
    · have hx := HG.out n hlt
      generalize l.getD n 0 = x at hx
      have hb0 : decide ((n : Int) < 8) = true := decide_eq_true (by omega)
      have hb1 : (n : Int) < 8 := by omega
      have hi0 : (0 : Int) ≤ (n : Int) := by omega
      have hnb : n < 9223372036854775807 := by omega
      have HN := Lib.hid hlt
      have h1 : ((w.alloc (.cells c 24)).alloc (.cells c 24)).cell? ⟨w.heap.size, n, none⟩ = some (.int .i64 x) := by simp [hx]
      have h2 : ((w.alloc (.cells c 24)).alloc (.cells c 24)).cell? ⟨w.heap.size + 1, n, none⟩ = some (.int .i64 x) := by simp [hx]
      clear hlt hn
      go_wp2
      repeat (go_quiet (fail); try go_wp2)
      go_roundg (8 - (n + 1))
      case measure => have := hg.out; have := HN.out; omega
      case rel => exact ⟨n + 1, Lib.hid HN.out, Lib.hid (Nat.le_refl _), by first | rfl | go_num, by repeat (first | exact Drawn0.refl _ | exact ⟨_, rfl⟩ | apply Drawn0.step)⟩
    · have en : n = 8 := by have := hn.out; omega
      subst en
      clear hn hg hlt
      go_wp2
      repeat (go_quiet (fail); try go_wp2)
      go_ret
      exact ⟨rfl, pw_below_drewN HB.out _⟩
open Go.Proofs.Ytabdpdnofljkcaa.RSW Go.Proofs.Ytabdpdnofljkcaa.Pure
theorem spec_weight_loop (l : List Int) (h : l.length ≤ 1048576) : ∀ d i (n : Nat), i + d = l.length → n ≤ i → Ev (fun k => spec_WeightOf.l0 k l (n : Int) (i : Int)) ((n + weight (l.drop i) : Nat) : Int) := by
  intro d
  induction d with
  | zero =>
    intro i n hi hn
    rw [List.drop_eq_nil_of_le (by omega)]
    exact Ev.step (f := fun _ => some (n : Int)) (fun k => by simp only [spec_WeightOf.l0]; rw [if_neg (by omega)]) (Ev.now _)
  | succ d ih =>
    intro i n hi hn
    have hd : l.drop i = l[i] :: l.drop (i + 1) := List.drop_eq_getElem_cons (by omega)
    have he : l.getD i 0 = l[i] := by simp [List.getD, show i < l.length by omega]
    by_cases hz : l[i] = 0
    · have hw : weight (l.drop i) = weight (l.drop (i + 1)) := by rw [hd, weight_zero _ hz]
      rw [hw]
      refine Ev.step (f := fun k => spec_WeightOf.l0 k l (n : Int) ((i + 1 : Nat) : Int)) (fun k => ?_) (ih (i + 1) n (by omega) (by omega))
      simp only [spec_WeightOf.l0]
      rw [if_pos (by omega), if_pos (by omega), rd_nat, he, if_pos hz, w64s (by omega)]
    · have hw : n + weight (l.drop i) = n + 1 + weight (l.drop (i + 1)) := by rw [hd, weight_one _ hz]; omega
      rw [hw]
      refine Ev.step (f := fun k => spec_WeightOf.l0 k l ((n + 1 : Nat) : Int) ((i + 1 : Nat) : Int)) (fun k => ?_) (ih (i + 1) (n + 1) (by omega) (by omega))
      simp only [spec_WeightOf.l0]
      rw [if_pos (by omega), if_pos (by omega), rd_nat, he, if_neg hz, w64s (by omega), w64s (by omega)]
theorem spec_weight (l : List Int) (h : l.length ≤ 1048576) : ∃ K, ∀ k, K ≤ k → spec_WeightOf.f k l = some ((weight l : Nat) : Int) := by
  have e := spec_weight_loop l h l.length 0 0 (by omega) (by omega)
  rw [Nat.zero_add, List.drop_zero] at e
  exact e
/-- how many words of each weight there are among the first so many -/
def wtsN (l : List (List Int)) : Nat → List Int
  | 0 => List.replicate 8 0
  | n + 1 => (wtsN l n).set (weight (l.getD n [])) (wrap64 ((wtsN l n).getD (weight (l.getD n [])) 0 + 1))
theorem wtsN_length (l : List (List Int)) (n : Nat) : (wtsN l n).length = 8 := by
  induction n with
  | zero => rfl
  | succ n ih => show ((wtsN l n).set _ _).length = 8; rw [List.length_set, ih]
theorem a8_set (l : List Int) (i : Nat) (x : Int) : (a8 l).setIfInBounds i (.int .i64 x) = a8 (l.set i x) := by
  simp [a8, List.map_set]
def wtsR (a0 : Int) (l : List (List Int)) : List Int := if listW a0 l [] = 0 then wtsN l l.length else List.replicate 8 0
theorem at_row {w : World} {A : Option Addr} {l : List (List Int)} (h : Kd.C (Kd.slice 64 (Kd.int .u16)) w A l.length l) {j : Nat} (hj : j < l.length) : ∃ ad, A = some ad ∧ ∃ A' c', w.cell? (ad.add j) = some (.slice A' (l.getD j []).length c') ∧ (l.getD j []).length ≤ c' ∧ Kd.C (Kd.int .u16) w A' (l.getD j []).length (l.getD j []) := by
  obtain ⟨ad, e, hc⟩ := h.2.2 (by omega)
  obtain ⟨c, hs, ⟨A', c', hcs, hl, hi⟩, hcell⟩ := hc j _ (List.getElem?_eq_getElem hj)
  have eg : l.getD j [] = l[j] := by simp [List.getD, hj]
  subst hcs
  refine ⟨ad, e, A', c', ?_, by rw [eg]; exact hl, by rw [eg]; exact hi⟩
  have := hcell 0 _ rfl
  rw [eg]
  have z : j * (Kd.slice 64 (Kd.int .u16)).sz + 0 = j := by show j * 1 + 0 = j; omega
  rw [z] at this
  exact this
theorem two_blks (w : World) (c c' : Array Value) {t t' : TypeId} : ((w.alloc (.cells c t)).alloc (.cells c' t')).heap[w.heap.size]? = some (.cells c t (0, 0)) ∧ ((w.alloc (.cells c t)).alloc (.cells c' t')).heap[w.heap.size + 1]? = some (.cells c' t' (0, 0)) := by
  refine ⟨blk_alloc (blk_new w _) _, ?_⟩
  have := blk_new (w.alloc (.cells c t)) (.cells c' t')
  rw [show (w.alloc (.cells c t)).heap.size = w.heap.size + 1 by simp] at this
  exact this
theorem info24 : (Try.prog.info? 24).map (·.size) = some 8 := by kernel_rfl
theorem a8_one (l : List Int) : (a8 l).all (·.oneCell') = true := by
  rw [Array.all_eq_true_iff_forall_mem]
  intro v hv
  simp [a8] at hv
  obtain ⟨x, _, rfl⟩ := hv
  rfl
theorem below_setRow {w W : World} {B g : Nat} (h : Below B w W) (hg : B ≤ g) (cs : Array Value) : Below B w (W.setRow g cs) :=
  ⟨h.os, h.tape, h.output, by rw [setRow_size]; exact h.size, fun i hi => (setRow_other W g i cs (by omega)).trans (h.block i hi)⟩
set_option maxHeartbeats 2000000 in
set_option maxRecDepth 100000 in
theorem specWeights_calls (a0 : Int) (A1 : Option Addr) (c1 : Nat) (l1 : List (List Int)) (w : World) (hr : Kd.C (Kd.slice 64 (Kd.int .u16)) w A1 l1.length l1) (hc : l1.length ≤ c1) (hl : l1.length ≤ 1048576) (hx : ∀ x ∈ l1, x.length ≤ 1048576) :
    Calls Try.prog 10 #[.int .i64 a0, .slice A1 l1.length c1] w fun e w' => e = .returned (.tuple #[.agg (a8 (wtsR a0 l1)), .int .i64 (listW a0 l1 [])]) ∧ Below w.heap.size w w' := by
  obtain ⟨K, hK⟩ := slisted a0 l1 hl hx
  have HS := Lib.hid (fun (W : World) (hW : Below w.heap.size w W) => spec_l06Listed.calls K a0 A1 c1 l1 _ W (Kd.C_below hr hW) hc (hK K (Nat.le_refl _)))
  have HR := Lib.hid hr
  have HL := Lib.hid (And.intro hl hx)
  have hmax : l1.length ≤ 9223372036854775807 := by omega
  unfold wtsR
  have HZ : Hid (listW a0 l1 [] = 0 → ∀ x ∈ l1, x.length ≤ 7) := Lib.hid (fun h x m => by have := (listW_zero h).2; rw [List.append_nil] at this; exact (okW_mem this m).2.2.1)
  clear hr hl hx hK
  obtain ⟨v, hv⟩ : ∃ v, listW a0 l1 [] = v := ⟨_, rfl⟩
  rw [hv] at HS HZ ⊢
  clear hv
  have HB := Lib.hid (Below.refl w.heap.size w)
  by_cases h0 : v = 0
  · subst h0
    rw [if_pos rfl]
    go_enter Try.func10, Try.ntmps10
    go_wp2_with (go_at_call 32; (with_reducible refine (HS.out _ ?hW).mono ?_); (case hW => repeat (first | (with_reducible first | exact HB.out | apply below_alloc | apply pw_below_drewN | apply below_drew) | exact HB.out)); rintro e w1 ⟨rfl, ⟨m, rfl⟩⟩)
    have B0 : Hid ((((w.alloc (.cells (a8 (List.replicate 8 0)) 24)).alloc (.cells (a8 (List.replicate 8 0)) 24)).drewN m).heap[w.heap.size]? = some (.cells (a8 (List.replicate 8 0)) 24 (0, 0))) := Lib.hid (blk_drewN (two_blks w _ _).1 m)
    have B1 : Hid ((((w.alloc (.cells (a8 (List.replicate 8 0)) 24)).alloc (.cells (a8 (List.replicate 8 0)) 24)).drewN m).heap[w.heap.size + 1]? = some (.cells (a8 (List.replicate 8 0)) 24 (0, 0))) := Lib.hid (blk_drewN (two_blks w _ _).2 m)
    have HB1 : Hid (Below w.heap.size w ((((w.alloc (.cells (a8 (List.replicate 8 0)) 24)).alloc (.cells (a8 (List.replicate 8 0)) 24)).drewN m))) := Lib.hid (pw_below_drewN (((Below.refl _ w).alloc (Nat.le_refl _) _).alloc (by simp) _) _)
    clear HB HS
    go_loopg [8] l1.length (fun gg v7 wr => ∃ n : Nat, Hid (n ≤ l1.length) ∧ Hid (l1.length - n ≤ gg) ∧ v7 = .int .i64 (n : Int) ∧ Hid (wr.heap[w.heap.size]? = some (.cells (a8 (List.replicate 8 0)) 24 (0, 0))) ∧ Hid (wr.heap[w.heap.size + 1]? = some (.cells (a8 (wtsN l1 n)) 24 (0, 0))) ∧ Hid (Below w.heap.size w wr))
    case atStart => exact ⟨0, Lib.hid (Nat.zero_le _), Lib.hid (Nat.sub_le _ _), rfl, B0, B1, HB1⟩
    case round =>
      clear B0 B1 HB1
      obtain ⟨n, hn, hg, rfl, B0, B1, HB⟩ := hrel
      by_cases hlt : n < l1.length
      · obtain ⟨ad, e, A', c', hx, hcx, hi⟩ := at_row (Kd.C_below HR.out HB.out) hlt
        subst e
        have hb0 : decide ((n : Int) < (l1.length : Int)) = true := decide_eq_true (by omega)
        have hb1 : (n : Int) < (l1.length : Int) := by omega
        have hi1 : (0 : Int) ≤ (n : Int) := by omega
        have hnb : n < 9223372036854775807 := by omega
        have h7 := HZ.out (by first | rfl | trivial) _ (getD_mem hlt)
        have hk8 : weight (l1.getD n []) < 8 := by have := weight_le (l1.getD n []); omega
        obtain ⟨K2, hK2⟩ := spec_weight (l1.getD n []) (by omega)
        have HW := Lib.hid (spec_WeightOf.calls K2 A' c' (l1.getD n []) _ wr hi hcx (hK2 K2 (Nat.le_refl _)))
        have TS : Hid (wtsN l1 (n + 1) = (wtsN l1 n).set (weight (l1.getD n [])) (wrap64 ((wtsN l1 n).getD (weight (l1.getD n [])) 0 + 1))) := Lib.hid rfl
        have hcell := (blk_cell B1.out (weight (l1.getD n []))).trans (a8_get (by rw [wtsN_length]; exact hk8))
        have hfr := blk_frozen B1.out (weight (l1.getD n []))
        generalize weight (l1.getD n []) = q at HW TS hcell hfr hk8
        generalize l1.getD n [] = x at HW hx
        obtain ⟨z, ez⟩ : ∃ z, (wtsN l1 n).getD q 0 = z := ⟨_, rfl⟩
        rw [ez] at TS hcell
        have hq1 : (q : Int) < 8 := by omega
        have hq2 : (0 : Int) ≤ (q : Int) := by omega
        have HN := Lib.hid hlt
        clear ez hK2 hi hcx h7 hlt hn hk8
        go_wp2_with (go_at_call 33; (with_reducible refine (HW.out).mono ?_); rintro e w1 ⟨rfl, ⟨m1, rfl⟩⟩)
        go_roundg (l1.length - (n + 1))
        case measure => have := hg.out; have := HN.out; omega
        case rel => exact ⟨n + 1, Lib.hid HN.out, Lib.hid (Nat.le_refl _), by first | rfl | go_num, Lib.hid (blk_far B0.out (by simp) _), Lib.hid (by rw [TS.out, ← a8_set]; exact blk_set B1.out _ _), Lib.hid (below_set (pw_below_drewN HB.out _) (by omega))⟩
      · have en : n = l1.length := by have := hn.out; omega
        subst en
        have hb0 : decide ((l1.length : Int) < (l1.length : Int)) = false := decide_eq_false (by omega)
        clear hn hg hlt
        have hI : (Try.prog.info? 24).map (·.size) = some (a8 (wtsN l1 l1.length)).size := by rw [a8_size, wtsN_length]; exact info24
        have hO : (a8 (List.replicate 8 0)).size = (a8 (wtsN l1 l1.length)).size := by rw [a8_size, a8_size, wtsN_length]; rfl
        have h1 := a8_one (wtsN l1 l1.length)
        have HI := Lib.hid (And.intro hI (And.intro hO h1))
        clear hI hO h1
        go_wp2_with (first
          | (with_reducible refine wpList_load_row rfl 24 (.tmp 6) rfl (w.heap.size + 1) rfl 24 _ (0, 0) _ B1.out Try.underlying24 rfl HI.out.1 ?_)
          | (with_reducible refine wpList_store_row rfl 24 (.tmp 4) (.tmp 32) rfl w.heap.size _ rfl rfl 24 _ B0.out HI.out.1 HI.out.2.1 HI.out.2.2 ?_))
        exact bodyPost_ret (results_ct Try.results10 _ _ w.heap.size 24 _ (0, 0) _ rfl (setRow_heap _ _ _ _ _ _ B0.out) Try.underlying24 rfl HI.out.1) rfl ⟨rfl, below_setRow HB.out (Nat.le_refl _) _⟩
  · rw [if_neg h0]
    have t0 : (v != 0) = true := bne_iff_ne.mpr h0
    have t1 : (v == 0) = false := beq_eq_false_iff_ne.mpr h0
    have hI : (Try.prog.info? 24).map (·.size) = some (a8 (List.replicate 8 0)).size := by rw [a8_size]; exact info24
    have h1 := a8_one (List.replicate 8 0)
    have HI := Lib.hid (And.intro hI h1)
    clear h0 hI h1 HZ
    go_enter Try.func10, Try.ntmps10
    go_wp2_with (first
      | (go_at_call 32; (with_reducible refine (HS.out _ ?hW).mono ?_); (case hW => repeat (first | (with_reducible first | exact HB.out | apply below_alloc | apply pw_below_drewN | apply below_drew) | exact HB.out)); rintro e w1 ⟨rfl, ⟨m, rfl⟩⟩)
      | (with_reducible refine wpList_load_row rfl 24 (.tmp 6) rfl (w.heap.size + 1) rfl 24 _ (0, 0) _ (blk_drewN (two_blks w _ _).2 m) Try.underlying24 rfl HI.out.1 ?_)
      | (with_reducible refine wpList_store_row rfl 24 (.tmp 4) _ rfl w.heap.size _ rfl rfl 24 _ (blk_drewN (two_blks w _ _).1 m) HI.out.1 rfl HI.out.2 ?_))
    exact bodyPost_ret (results_ct Try.results10 _ _ w.heap.size 24 _ (0, 0) _ rfl (setRow_heap _ _ _ _ _ _ (blk_drewN (two_blks w _ _).1 m)) Try.underlying24 rfl HI.out.1) rfl ⟨rfl, below_setRow (pw_below_drewN (((Below.refl _ w).alloc (Nat.le_refl _) _).alloc (by simp) _) _) (Nat.le_refl _) _⟩
set_option maxHeartbeats 2000000 in
set_option maxRecDepth 100000 in
theorem implWeights_calls (a0 : Int) (A1 : Option Addr) (c1 : Nat) (l1 : List (List Int)) (w : World) (hr : Kd.C (Kd.slice 64 (Kd.int .u16)) w A1 l1.length l1) (hc : l1.length ≤ c1) (hl : l1.length ≤ 1048576) (hx : ∀ x ∈ l1, x.length ≤ 1048576) :
    Calls Try.prog 12 #[.int .i64 a0, .slice A1 l1.length c1] w fun e w' => e = .returned (.tuple #[.agg (a8 (wtsR a0 l1)), .int .i64 (listW a0 l1 [])]) ∧ Below w.heap.size w w' := by
  have HS : Hid (∀ (W : World) (hW : Below w.heap.size w W), Calls Try.prog 34 #[.int .i64 a0, .slice A1 l1.length c1, .slice none 0 0] W fun e w' => e = .returned (.int .i64 (listW a0 l1 [])) ∧ Below W.heap.size W w') := Lib.hid (fun (W : World) (hW : Below w.heap.size w W) => impl_listCode.calls a0 A1 c1 l1 none 0 [] _ W (Kd.C_below hr hW) hc (Kd.C_nil _ _) (Nat.le_refl _) (ilist a0 l1 [] hl (by simp)))
  have HR := Lib.hid hr
  have HL := Lib.hid (And.intro hl hx)
  have hmax : l1.length ≤ 9223372036854775807 := by omega
  unfold wtsR
  have HZ : Hid (listW a0 l1 [] = 0 → ∀ x ∈ l1, x.length ≤ 7) := Lib.hid (fun h x m => by have := (listW_zero h).2; rw [List.append_nil] at this; exact (okW_mem this m).2.2.1)
  clear hr hl hx
  obtain ⟨v, hv⟩ : ∃ v, listW a0 l1 [] = v := ⟨_, rfl⟩
  rw [hv] at HS HZ ⊢
  clear hv
  have HB := Lib.hid (Below.refl w.heap.size w)
  by_cases h0 : v = 0
  · subst h0
    rw [if_pos rfl]
    go_enter Try.func12, Try.ntmps12
    go_wp2_with (go_at_call 34; (with_reducible refine (HS.out _ ?hW).mono ?_); (case hW => repeat (first | (with_reducible first | exact HB.out | apply below_alloc | apply pw_below_drewN | apply below_drew) | exact HB.out)); rintro e w1 ⟨rfl, hb⟩)
    have hz1 : w.heap.size + 1 ≤ w1.heap.size := by have := hb.size; simpa using this
    have B0 : Hid ((w1.alloc (.cells (a8 (List.replicate 8 0)) 24)).heap[w.heap.size]? = some (.cells (a8 (List.replicate 8 0)) 24 (0, 0))) := Lib.hid (blk_alloc (blk_below (blk_new w _) hb) _)
    have B1 : Hid ((w1.alloc (.cells (a8 (List.replicate 8 0)) 24)).heap[w1.heap.size]? = some (.cells (a8 (List.replicate 8 0)) 24 (0, 0))) := Lib.hid (blk_new w1 _)
    have HB1 : Hid (Below w.heap.size w (w1.alloc (.cells (a8 (List.replicate 8 0)) 24))) := Lib.hid (below_alloc (below_step ((Below.refl _ w).alloc (Nat.le_refl _) _) hb) _)
    generalize w1.heap.size = g1 at B1 hz1 ⊢
    have hg1 : w.heap.size ≤ g1 := by omega
    have hg2 : w.heap.size ≠ g1 := by omega
    have HG1 := Lib.hid (And.intro hg1 hg2)
    clear HB HS hb hz1 hg1 hg2
    go_loopg [20] l1.length (fun gg v7 wr => ∃ n : Nat, Hid (n ≤ l1.length) ∧ Hid (l1.length - n ≤ gg) ∧ v7 = .int .i64 (n : Int) ∧ Hid (wr.heap[w.heap.size]? = some (.cells (a8 (List.replicate 8 0)) 24 (0, 0))) ∧ Hid (wr.heap[g1]? = some (.cells (a8 (wtsN l1 n)) 24 (0, 0))) ∧ Hid (Below w.heap.size w wr))
    case atStart => exact ⟨0, Lib.hid (Nat.zero_le _), Lib.hid (Nat.sub_le _ _), rfl, B0, B1, HB1⟩
    case round =>
      clear B0 B1 HB1
      obtain ⟨n, hn, hg, rfl, B0, B1, HB⟩ := hrel
      by_cases hlt : n < l1.length
      · obtain ⟨ad, e, A', c', hx, hcx, hi⟩ := at_row (Kd.C_below HR.out HB.out) hlt
        subst e
        have hb0 : decide ((n : Int) < (l1.length : Int)) = true := decide_eq_true (by omega)
        have hb1 : (n : Int) < (l1.length : Int) := by omega
        have hi1 : (0 : Int) ≤ (n : Int) := by omega
        have hnb : n < 9223372036854775807 := by omega
        have h7 := HZ.out (by first | rfl | trivial) _ (getD_mem hlt)
        have hk8 : weight (l1.getD n []) < 8 := by have := weight_le (l1.getD n []); omega
        obtain ⟨K2, hK2⟩ := impl_weight (l1.getD n []) (by omega)
        have HW := Lib.hid (impl_WeightOf.calls K2 A' c' (l1.getD n []) _ wr hi hcx (hK2 K2 (Nat.le_refl _)))
        have TS : Hid (wtsN l1 (n + 1) = (wtsN l1 n).set (weight (l1.getD n [])) (wrap64 ((wtsN l1 n).getD (weight (l1.getD n [])) 0 + 1))) := Lib.hid rfl
        have hcell := (blk_cell B1.out (weight (l1.getD n []))).trans (a8_get (by rw [wtsN_length]; exact hk8))
        have hfr := blk_frozen B1.out (weight (l1.getD n []))
        generalize weight (l1.getD n []) = q at HW TS hcell hfr hk8
        generalize l1.getD n [] = x at HW hx
        obtain ⟨z, ez⟩ : ∃ z, (wtsN l1 n).getD q 0 = z := ⟨_, rfl⟩
        rw [ez] at TS hcell
        have hq1 : (q : Int) < 8 := by omega
        have hq2 : (0 : Int) ≤ (q : Int) := by omega
        have HN := Lib.hid hlt
        clear ez hK2 hi hcx h7 hlt hn hk8
        go_wp2_with (go_at_call 35; (with_reducible refine (HW.out).mono ?_); rintro e w1 ⟨rfl, ⟨m1, rfl⟩⟩)
        go_roundg (l1.length - (n + 1))
        case measure => have := hg.out; have := HN.out; omega
        case rel => exact ⟨n + 1, Lib.hid HN.out, Lib.hid (Nat.le_refl _), by first | rfl | go_num, Lib.hid (blk_far B0.out HG1.out.2 _), Lib.hid (by rw [TS.out, ← a8_set]; exact blk_set B1.out _ _), Lib.hid (below_set (pw_below_drewN HB.out _) HG1.out.1)⟩
      · have en : n = l1.length := by have := hn.out; omega
        subst en
        have hb0 : decide ((l1.length : Int) < (l1.length : Int)) = false := decide_eq_false (by omega)
        clear hn hg hlt
        have hI : (Try.prog.info? 24).map (·.size) = some (a8 (wtsN l1 l1.length)).size := by rw [a8_size, wtsN_length]; exact info24
        have hO : (a8 (List.replicate 8 0)).size = (a8 (wtsN l1 l1.length)).size := by rw [a8_size, a8_size, wtsN_length]; rfl
        have h1 := a8_one (wtsN l1 l1.length)
        have HI := Lib.hid (And.intro hI (And.intro hO h1))
        clear hI hO h1
        go_wp2_with (first
          | (with_reducible refine wpList_load_row rfl 24 (.tmp 7) rfl g1 rfl 24 _ (0, 0) _ B1.out Try.underlying24 rfl HI.out.1 ?_)
          | (with_reducible refine wpList_store_row rfl 24 (.tmp 4) _ rfl w.heap.size _ rfl rfl 24 _ B0.out HI.out.1 HI.out.2.1 HI.out.2.2 ?_))
        exact bodyPost_ret (results_ct Try.results12 _ _ w.heap.size 24 _ (0, 0) _ rfl (setRow_heap _ _ _ _ _ _ B0.out) Try.underlying24 rfl HI.out.1) rfl ⟨rfl, below_setRow HB.out (Nat.le_refl _) _⟩
  · rw [if_neg h0]
    have t0 : (v != 0) = true := bne_iff_ne.mpr h0
    have t1 : (v == 0) = false := beq_eq_false_iff_ne.mpr h0
    have hI : (Try.prog.info? 24).map (·.size) = some (a8 (List.replicate 8 0)).size := by rw [a8_size]; exact info24
    have h1 := a8_one (List.replicate 8 0)
    have HI := Lib.hid (And.intro hI h1)
    clear h0 hI h1 HZ
    go_enter Try.func12, Try.ntmps12
    go_wp2_with (first
      | (go_at_call 34; (with_reducible refine (HS.out _ ?hW).mono ?_); (case hW => repeat (first | (with_reducible first | exact HB.out | apply below_alloc | apply pw_below_drewN | apply below_drew) | exact HB.out)); rintro e w1 ⟨rfl, hb⟩; have B0 := Lib.hid (blk_below (blk_new w _) hb); have HB1 := Lib.hid (below_step ((Below.refl _ w).alloc (Nat.le_refl _) _) hb); clear hb HB)
      | ((with_reducible refine wpList_store_row rfl 24 (.tmp 4) (.tmp 15) rfl w.heap.size #[.int .i64 0, .int .i64 0, .int .i64 0, .int .i64 0, .int .i64 0, .int .i64 0, .int .i64 0, .int .i64 0] ?hx ?hy 24 _ B0.out ?hi ?ho ?h1 ?_); (case hx => rfl); (case hy => rfl); (case hi => exact info24); (case ho => rfl); (case h1 => exact HI.out.2)))
    exact bodyPost_ret (results_ct Try.results12 _ _ w.heap.size 24 _ (0, 0) _ rfl (setRow_heap _ _ _ _ _ _ B0.out) Try.underlying24 rfl HI.out.1) rfl ⟨rfl, below_setRow HB1.out (Nat.le_refl _) _⟩

end Go.Proofs.Ytabdpdnofljkcaa.Given
