-- WRITTEN BY A PROGRAM OF THIS SESSION over the walks that the kit prints; contracts of functions that the print does not take are this session's own
import Derived.Test.YtkgnjfoclhkgkaaDoorCP2
import Derived.Test.YtkgnjfoclhkgkaaDoorRSORTx0
import Derived.Test.YtkgnjfoclhkgkaaDoorRSORTx1
import Derived.Test.YtkgnjfoclhkgkaaDoorRSORTx2
namespace Go.Proofs.YtkgnjfoclhkgkaaDoor.RSORT
open Go.RowKit Go.Proofs.YtkgnjfoclhkgkaaDoor.Given Go.Proofs.YtkgnjfoclhkgkaaDoorW.PrintWords Go.Proofs.YtkgnjfoclhkgkaaDoorW.PrintLast Go.Proofs.YtkgnjfoclhkgkaaDoorW.PrintMore
attribute [local go_sem] max2_int min2_int max_two min_two max_three min_three max_four min_four   -- for this text's walks alone
set_option linter.unusedVariables false
set_option linter.unusedSimpArgs false
mutual
def slices_pdqsortOrdered_uint32.l0 : Nat → List Int → Int → Int → Int → Bool → Bool → Option (List Int)
  | 0, _, _, _, _, _, _ => none
  | k + 1, x0, x1, x2, x3, x8, x9 => if (wrap64 (x2 - x1)) ≤ 12 then ((slices_insertionSortOrdered_uint32.f k x0 x1 x2).bind fun t150 => (some t150)) else (if x3 = 0 then ((slices_heapSortOrdered_uint32.f x0 x1 x2).bind fun t151 => (some t151)) else (if x8 = true then (slices_pdqsortOrdered_uint32.j1 k x0 x1 x2 x3 x8 x9 (wrap64 (x2 - x1))) else ((slices_breakPatternsOrdered_uint32.f x0 x1 x2).bind fun t152 => (slices_pdqsortOrdered_uint32.j1 k t152 x1 x2 (wrap64 (x3 - 1)) x8 x9 (wrap64 (x2 - x1))))))
def slices_pdqsortOrdered_uint32.j1 : Nat → List Int → Int → Int → Int → Bool → Bool → Int → Option (List Int)
  | 0, _, _, _, _, _, _, _ => none
  | k + 1, x0, x1, x2, x3, x8, x9, x10 => (slices_choosePivotOrdered_uint32.f x0 x1 x2).bind fun bt153 => (if bt153.2 = 2 then ((slices_reverseRangeOrdered_uint32.f x0 x1 x2).bind fun t155 => (slices_pdqsortOrdered_uint32.j2 k t155 x1 x2 x3 x8 x9 x10 (wrap64 ((wrap64 (x2 - 1)) - (wrap64 (bt153.1 - x1)))) 1)) else (slices_pdqsortOrdered_uint32.j2 k x0 x1 x2 x3 x8 x9 x10 bt153.1 bt153.2))
def slices_pdqsortOrdered_uint32.j2 : Nat → List Int → Int → Int → Int → Bool → Bool → Int → Int → Int → Option (List Int)
  | 0, _, _, _, _, _, _, _, _, _ => none
  | k + 1, x0, x1, x2, x3, x8, x9, x10, x11, x12 => if x8 = true then (if x9 = true then (slices_pdqsortOrdered_uint32.j3 k x0 x1 x2 x3 x8 x9 x10 x11 (x12 == 1)) else (slices_pdqsortOrdered_uint32.j3 k x0 x1 x2 x3 x8 x9 x10 x11 false)) else (slices_pdqsortOrdered_uint32.j3 k x0 x1 x2 x3 x8 x9 x10 x11 false)
def slices_pdqsortOrdered_uint32.j3 : Nat → List Int → Int → Int → Int → Bool → Bool → Int → Int → Bool → Option (List Int)
  | 0, _, _, _, _, _, _, _, _, _ => none
  | k + 1, x0, x1, x2, x3, x8, x9, x10, x11, x68 => if x68 = true then ((slices_partialInsertionSortOrdered_uint32.f x0 x1 x2).bind fun bt156 => (if bt156.1 = true then (some bt156.2) else (slices_pdqsortOrdered_uint32.j4 k bt156.2 x1 x2 x3 x8 x9 x10 x11))) else (slices_pdqsortOrdered_uint32.j4 k x0 x1 x2 x3 x8 x9 x10 x11)
def slices_pdqsortOrdered_uint32.j4 : Nat → List Int → Int → Int → Int → Bool → Bool → Int → Int → Option (List Int)
  | 0, _, _, _, _, _, _, _, _ => none
  | k + 1, x0, x1, x2, x3, x8, x9, x10, x11 => if x1 > 0 then (if 0 ≤ (wrap64 (x1 - 1)) then (if (wrap64 (x1 - 1)) < (x0.length : Int) then (if 0 ≤ x11 then (if x11 < (x0.length : Int) then ((cmp_Less_uint32.f (rd x0 (wrap64 (x1 - 1))) (rd x0 x11)).bind fun t160 => (slices_pdqsortOrdered_uint32.j5 k x0 x1 x2 x3 x8 x9 x10 x11 (!t160))) else (none)) else (none)) else (none)) else (none)) else (slices_pdqsortOrdered_uint32.j5 k x0 x1 x2 x3 x8 x9 x10 x11 false)
def slices_pdqsortOrdered_uint32.j5 : Nat → List Int → Int → Int → Int → Bool → Bool → Int → Int → Bool → Option (List Int)
  | 0, _, _, _, _, _, _, _, _, _ => none
  | k + 1, x0, x1, x2, x3, x8, x9, x10, x11, x87 => if x87 = true then ((slices_partitionEqualOrdered_uint32.f x0 x1 x2 x11).bind fun bt161 => (slices_pdqsortOrdered_uint32.l0 k bt161.2 bt161.1 x2 x3 x8 x9)) else ((slices_partitionOrdered_uint32.f k x0 x1 x2 x11).bind fun bt163 => (if (wrap64 (bt163.1 - x1)) < (wrap64 (x2 - bt163.1)) then ((slices_pdqsortOrdered_uint32.f k bt163.2.2 x1 bt163.1 x3).bind fun t166 => (slices_pdqsortOrdered_uint32.l0 k t166 (wrap64 (bt163.1 + 1)) x2 x3 (decide ((wrap64 (bt163.1 - x1)) ≥ (wrap64 (Int.tdiv x10 8)))) bt163.2.1)) else ((slices_pdqsortOrdered_uint32.f k bt163.2.2 (wrap64 (bt163.1 + 1)) x2 x3).bind fun t167 => (slices_pdqsortOrdered_uint32.l0 k t167 x1 bt163.1 x3 (decide ((wrap64 (x2 - bt163.1)) ≥ (wrap64 (Int.tdiv x10 8)))) bt163.2.1))))
def slices_pdqsortOrdered_uint32.f : Nat → List Int → Int → Int → Int → Option (List Int)
  | 0, _, _, _, _ => none
  | k + 1, l0, a1, a2, a3 => slices_pdqsortOrdered_uint32.l0 k l0 a1 a2 a3 true true
end
set_option maxHeartbeats 8000000 in
set_option maxRecDepth 100000 in
theorem slices_pdqsortOrdered_uint32.calls (k : Nat) : ∀ (P0_ : Nat → Prop) (u9000_ : Value) (l0 : List Int) (a1 : Int) (a2 : Int) (a3 : Int) (r : List Int) (w0 w : World) (hB : Below w0.heap.size w0 w) (ho0 : Kd.R (Kd.int .u32) 25 w w0.heap.size P0_ u9000_ l0) (h : slices_pdqsortOrdered_uint32.f k l0 a1 a2 a3 = some r),
    Calls Tryd.prog 78 #[u9000_, .int .i64 a1, .int .i64 a2, .int .i64 a3] w fun e w' => e = .returned (.tuple #[]) ∧ Kd.R (Kd.int .u32) 25 w' w0.heap.size (fun k_ => (P0_ k_ ∨ w.heap.size ≤ k_)) u9000_ r ∧ Below w0.heap.size w0 w' ∧ Kept w w' (fun k_ => P0_ k_) := by
 induction k using Nat.strongRecOn with
 | _ k ih =>
 intro P0_ u9000_ l0 a1 a2 a3 r w0 w hB ho0 h
 cases k with
 | zero => exact absurd h (by simp [slices_pdqsortOrdered_uint32.f])
 | succ k =>
 simp only [slices_pdqsortOrdered_uint32.f] at h
 have HO0 := Aside0.mk (show Kd.R (Kd.int .u32) 25 w w0.heap.size (fun k_ => (P0_ k_ ∨ w.heap.size ≤ k_)) u9000_ l0 from Kd.R_mono ho0 (fun k_ hk => (.inl hk)))
 have HK := Aside0.mk (Kept.refl w (fun k_ => P0_ k_))
 have HW0 := Aside0.mk hB.size
 have HB := Aside0.mk hB
 clear hB
 have H : (slices_pdqsortOrdered_uint32.l0 k l0 a1 a2 a3 true true) = some r := h
 clear h
 have H' := Aside0.mk H
 clear H
 go_enter Tryd.func78, Tryd.ntmps78
 go_wp2
 repeat (go_quiet (fail); try go_wp2)
 go_loopg [1, 2, 3, 8, 9] k (fun kq v1 v2 v3 v8 v9 w' => ∃ (x0_1 : List Int) (x1_1 : Int) (x2_1 : Int) (x3_1 : Int) (x8_1 : Bool) (x9_1 : Bool), v1 = .int .i64 x1_1 ∧ v2 = .int .i64 x2_1 ∧ v3 = .int .i64 x3_1 ∧ v8 = .bool x8_1 ∧ v9 = .bool x9_1 ∧ Aside0 (slices_pdqsortOrdered_uint32.l0 kq x0_1 x1_1 x2_1 x3_1 x8_1 x9_1 = some r) ∧ Aside0 (kq ≤ k) ∧ Aside0 (Kd.R (Kd.int .u32) 25 w' w0.heap.size (fun k_ => (P0_ k_ ∨ w.heap.size ≤ k_)) u9000_ x0_1) ∧ Aside0 (Kept w w' (fun k_ => P0_ k_)) ∧ Aside0 (Below w0.heap.size w0 w'))
 case atStart => exact ⟨(l0), (a1), (a2), (a3), (true), (true), (by first | rfl | (simp; done) | (simp [*]; done)), (by first | rfl | (simp; done) | (simp [*]; done)), (by first | rfl | (simp; done) | (simp [*]; done)), (by first | rfl | (simp; done) | (simp [*]; done)), (by first | rfl | (simp; done) | (simp [*]; done)), H', ⟨Nat.le_refl _⟩, ⟨by (with_reducible repeat (first | apply Kd.R_alloc | apply Kd.R_drewN | apply Kd.R_drew)); exact HO0.out⟩, ⟨by repeat (first | (with_reducible first | exact HK.out | apply Kept.alloc | apply Kept.drewN | apply Kept.drew) | exact HK.out)⟩, ⟨by repeat (first | (with_reducible first | exact HB.out | apply below_alloc | apply pw_below_drewN | apply below_drew1) | exact HB.out)⟩⟩
 case round =>
 clear H'
 try clear p2
 obtain ⟨x0_1, x1_1, x2_1, x3_1, x8_1, x9_1, rfl, rfl, rfl, rfl, rfl, HA, HK1, HO_0, HK, HB⟩ := hrel
 cases gk with
 | zero => exact absurd HA.out (by simp [slices_pdqsortOrdered_uint32.l0])
 | succ k1 =>
 have H := HA.out
 clear HA
 simp only [slices_pdqsortOrdered_uint32.l0] at H
 by_cases c5 : (wrap64 (x2_1 - x1_1)) ≤ 12
 · rw [if_pos c5] at H
   have c5b0 : decide ((wrap64 (x2_1 - x1_1)) ≤ 12) = true := decide_eq_true c5
   clear c5
   replace H := Option.bind_eq_some_iff.mp H
   obtain ⟨t150, A60, H⟩ := H
   replace H : (some t150) = some r := H
   have A6 := Aside0.mk A60
   clear A60
   obtain rfl := Option.some.inj H
   obtain ⟨Ao7, co7, eo7⟩ := Kd.R_slice HO_0.out
   subst eo7
   go_wp2_with (first | (go_at_call 83; (with_reducible refine (slices_insertionSortOrdered_uint32.calls k1 (fun k_ => some k_ = (.slice Ao7 x0_1.length co7 : Value).ownBlock) (.slice Ao7 x0_1.length co7) x0_1 x1_1 x2_1 t150 w0 _ ?side1 ?side2 A6.out).mono ?_); (case side1 => repeat (first | (with_reducible first | exact HB.out | apply below_alloc | apply pw_below_drewN | apply below_drew1) | exact HB.out)); (case side2 => exact Kd.R_tight rfl HO_0.out); rintro e w8 ⟨rfl, hy0, hb, hkp⟩; have n0_ := Aside0.mk (Kd.R_reok rfl hy0 (fun k_ e_ => HO_0.out.1 k_ e_)); have n1_ := Aside0.mk (Kept.then_ (S := (fun k_ => P0_ k_)) (by repeat (first | (with_reducible first | exact HK.out | apply Kept.alloc | apply Kept.drewN | apply Kept.drew) | exact HK.out)) hkp (fun k_ hs_ => (fun e_ => (HO_0.out.1 k_ e_.symm)) hs_)); have n2_ := Aside0.mk (hb); clear HO_0; clear HK; clear HB; have HO_0 := n0_; have HK := n1_; have HB := n2_; clear n0_ n1_ n2_; (try clear hb); (try clear hkp); (try clear hy0)))
   repeat (go_quiet (first | (go_at_call 83; (with_reducible refine (slices_insertionSortOrdered_uint32.calls k1 (fun k_ => some k_ = (.slice Ao7 x0_1.length co7 : Value).ownBlock) (.slice Ao7 x0_1.length co7) x0_1 x1_1 x2_1 t150 w0 _ ?side1 ?side2 A6.out).mono ?_); (case side1 => repeat (first | (with_reducible first | exact HB.out | apply below_alloc | apply pw_below_drewN | apply below_drew1) | exact HB.out)); (case side2 => exact Kd.R_tight rfl HO_0.out); rintro e w8 ⟨rfl, hy0, hb, hkp⟩; have n0_ := Aside0.mk (Kd.R_reok rfl hy0 (fun k_ e_ => HO_0.out.1 k_ e_)); have n1_ := Aside0.mk (Kept.then_ (S := (fun k_ => P0_ k_)) (by repeat (first | (with_reducible first | exact HK.out | apply Kept.alloc | apply Kept.drewN | apply Kept.drew) | exact HK.out)) hkp (fun k_ hs_ => (fun e_ => (HO_0.out.1 k_ e_.symm)) hs_)); have n2_ := Aside0.mk (hb); clear HO_0; clear HK; clear HB; have HO_0 := n0_; have HK := n1_; have HB := n2_; clear n0_ n1_ n2_; (try clear hb); (try clear hkp); (try clear hy0))); try go_wp2_with (first | (go_at_call 83; (with_reducible refine (slices_insertionSortOrdered_uint32.calls k1 (fun k_ => some k_ = (.slice Ao7 x0_1.length co7 : Value).ownBlock) (.slice Ao7 x0_1.length co7) x0_1 x1_1 x2_1 t150 w0 _ ?side1 ?side2 A6.out).mono ?_); (case side1 => repeat (first | (with_reducible first | exact HB.out | apply below_alloc | apply pw_below_drewN | apply below_drew1) | exact HB.out)); (case side2 => exact Kd.R_tight rfl HO_0.out); rintro e w8 ⟨rfl, hy0, hb, hkp⟩; have n0_ := Aside0.mk (Kd.R_reok rfl hy0 (fun k_ e_ => HO_0.out.1 k_ e_)); have n1_ := Aside0.mk (Kept.then_ (S := (fun k_ => P0_ k_)) (by repeat (first | (with_reducible first | exact HK.out | apply Kept.alloc | apply Kept.drewN | apply Kept.drew) | exact HK.out)) hkp (fun k_ hs_ => (fun e_ => (HO_0.out.1 k_ e_.symm)) hs_)); have n2_ := Aside0.mk (hb); clear HO_0; clear HK; clear HB; have HO_0 := n0_; have HK := n1_; have HB := n2_; clear n0_ n1_ n2_; (try clear hb); (try clear hkp); (try clear hy0))))
   first | go_end0 | ((try simp only [Exit.inBlock, Exit.then]); refine bodyPost_ret (results_none rfl _ _ _) rfl ?_)
   exact ⟨by first | rfl | (simp [errW_none, errW_some] <;> rfl) | (simp [*, errW_none, errW_some] <;> rfl), by (with_reducible repeat (first | apply Kd.R_alloc | apply Kd.R_drewN | apply Kd.R_drew)); exact HO_0.out, by repeat (first | (with_reducible first | exact HB.out | apply below_alloc | apply pw_below_drewN | apply below_drew1) | exact HB.out), by repeat (first | (with_reducible first | exact HK.out | apply Kept.alloc | apply Kept.drewN | apply Kept.drew) | exact HK.out)⟩
 rw [if_neg c5] at H
 have c5b0 : decide ((wrap64 (x2_1 - x1_1)) ≤ 12) = false := decide_eq_false c5
 clear c5
 by_cases c9 : x3_1 = 0
 · rw [if_pos c9] at H
   have c9b0 : (x3_1 == 0) = true := beq_iff_eq.mpr c9
   have c9b1 : (x3_1 != 0) = false := bne_eq_false_iff_eq.mpr c9
   clear c9
   replace H := Option.bind_eq_some_iff.mp H
   obtain ⟨t151, A100, H⟩ := H
   replace H : (some t151) = some r := H
   have A10 := Aside0.mk A100
   clear A100
   obtain rfl := Option.some.inj H
   obtain ⟨Ao11, co11, eo11⟩ := Kd.R_slice HO_0.out
   subst eo11
   go_wp2_with (first | (go_at_call 84; (with_reducible refine (slices_heapSortOrdered_uint32.calls (fun k_ => some k_ = (.slice Ao11 x0_1.length co11 : Value).ownBlock) (.slice Ao11 x0_1.length co11) x0_1 x1_1 x2_1 t151 w0 _ ?side1 ?side2 A10.out).mono ?_); (case side1 => repeat (first | (with_reducible first | exact HB.out | apply below_alloc | apply pw_below_drewN | apply below_drew1) | exact HB.out)); (case side2 => exact Kd.R_tight rfl HO_0.out); rintro e w12 ⟨rfl, hy0, hb, hkp⟩; have n0_ := Aside0.mk (Kd.R_reok rfl hy0 (fun k_ e_ => HO_0.out.1 k_ e_)); have n1_ := Aside0.mk (Kept.then_ (S := (fun k_ => P0_ k_)) (by repeat (first | (with_reducible first | exact HK.out | apply Kept.alloc | apply Kept.drewN | apply Kept.drew) | exact HK.out)) hkp (fun k_ hs_ => (fun e_ => (HO_0.out.1 k_ e_.symm)) hs_)); have n2_ := Aside0.mk (hb); clear HO_0; clear HK; clear HB; have HO_0 := n0_; have HK := n1_; have HB := n2_; clear n0_ n1_ n2_; (try clear hb); (try clear hkp); (try clear hy0)))
   repeat (go_quiet (first | (go_at_call 84; (with_reducible refine (slices_heapSortOrdered_uint32.calls (fun k_ => some k_ = (.slice Ao11 x0_1.length co11 : Value).ownBlock) (.slice Ao11 x0_1.length co11) x0_1 x1_1 x2_1 t151 w0 _ ?side1 ?side2 A10.out).mono ?_); (case side1 => repeat (first | (with_reducible first | exact HB.out | apply below_alloc | apply pw_below_drewN | apply below_drew1) | exact HB.out)); (case side2 => exact Kd.R_tight rfl HO_0.out); rintro e w12 ⟨rfl, hy0, hb, hkp⟩; have n0_ := Aside0.mk (Kd.R_reok rfl hy0 (fun k_ e_ => HO_0.out.1 k_ e_)); have n1_ := Aside0.mk (Kept.then_ (S := (fun k_ => P0_ k_)) (by repeat (first | (with_reducible first | exact HK.out | apply Kept.alloc | apply Kept.drewN | apply Kept.drew) | exact HK.out)) hkp (fun k_ hs_ => (fun e_ => (HO_0.out.1 k_ e_.symm)) hs_)); have n2_ := Aside0.mk (hb); clear HO_0; clear HK; clear HB; have HO_0 := n0_; have HK := n1_; have HB := n2_; clear n0_ n1_ n2_; (try clear hb); (try clear hkp); (try clear hy0))); try go_wp2_with (first | (go_at_call 84; (with_reducible refine (slices_heapSortOrdered_uint32.calls (fun k_ => some k_ = (.slice Ao11 x0_1.length co11 : Value).ownBlock) (.slice Ao11 x0_1.length co11) x0_1 x1_1 x2_1 t151 w0 _ ?side1 ?side2 A10.out).mono ?_); (case side1 => repeat (first | (with_reducible first | exact HB.out | apply below_alloc | apply pw_below_drewN | apply below_drew1) | exact HB.out)); (case side2 => exact Kd.R_tight rfl HO_0.out); rintro e w12 ⟨rfl, hy0, hb, hkp⟩; have n0_ := Aside0.mk (Kd.R_reok rfl hy0 (fun k_ e_ => HO_0.out.1 k_ e_)); have n1_ := Aside0.mk (Kept.then_ (S := (fun k_ => P0_ k_)) (by repeat (first | (with_reducible first | exact HK.out | apply Kept.alloc | apply Kept.drewN | apply Kept.drew) | exact HK.out)) hkp (fun k_ hs_ => (fun e_ => (HO_0.out.1 k_ e_.symm)) hs_)); have n2_ := Aside0.mk (hb); clear HO_0; clear HK; clear HB; have HO_0 := n0_; have HK := n1_; have HB := n2_; clear n0_ n1_ n2_; (try clear hb); (try clear hkp); (try clear hy0))))
   first | go_end0 | ((try simp only [Exit.inBlock, Exit.then]); refine bodyPost_ret (results_none rfl _ _ _) rfl ?_)
   exact ⟨by first | rfl | (simp [errW_none, errW_some] <;> rfl) | (simp [*, errW_none, errW_some] <;> rfl), by (with_reducible repeat (first | apply Kd.R_alloc | apply Kd.R_drewN | apply Kd.R_drew)); exact HO_0.out, by repeat (first | (with_reducible first | exact HB.out | apply below_alloc | apply pw_below_drewN | apply below_drew1) | exact HB.out), by repeat (first | (with_reducible first | exact HK.out | apply Kept.alloc | apply Kept.drewN | apply Kept.drew) | exact HK.out)⟩
 rw [if_neg c9] at H
 have c9b0 : (x3_1 == 0) = false := beq_eq_false_iff_ne.mpr c9
 have c9b1 : (x3_1 != 0) = true := bne_iff_ne.mpr c9
 have HC13 := Aside0.mk H
 clear H
 go_upto_if 35 with (fail)
 repeat (go_quiet (fail); go_upto_if 35 with (fail))
 go_cut [3] (fun v3 wc => ∃ (kq : Nat) (x0_12 : List Int) (x3_12 : Int), v3 = .int .i64 x3_12 ∧ Aside0 (slices_pdqsortOrdered_uint32.j1 kq x0_12 x1_1 x2_1 x3_12 x8_1 x9_1 (wrap64 (x2_1 - x1_1)) = some r) ∧ Aside0 (kq ≤ k1) ∧ Aside0 (Kd.R (Kd.int .u32) 25 wc w0.heap.size (fun k_ => (P0_ k_ ∨ w.heap.size ≤ k_)) u9000_ x0_12) ∧ Aside0 (Kept w wc (fun k_ => P0_ k_)) ∧ Aside0 (Below w0.heap.size w0 wc))
 case first =>
  have H := HC13.out
  clear HC13
  by_cases c14 : x8_1 = true
  · subst c14
    have H1 : (slices_pdqsortOrdered_uint32.j1 k1 x0_1 x1_1 x2_1 x3_1 true x9_1 (wrap64 (x2_1 - x1_1))) = some r := by rw [if_pos rfl] at H; exact H
    clear H
    have H := H1
    clear H1
    have H' := Aside0.mk H
    clear H
    go_wp2
    repeat (go_quiet (fail); try go_wp2)
    go_meet
    case rel => exact ⟨_, (x0_1), (x3_1), (by first | rfl | (simp; done) | (simp [*]; done)), H', ⟨by have := HK1.out; first | omega | exact Nat.le_refl _⟩, ⟨by (with_reducible repeat (first | apply Kd.R_alloc | apply Kd.R_drewN | apply Kd.R_drew)); exact HO_0.out⟩, ⟨by repeat (first | (with_reducible first | exact HK.out | apply Kept.alloc | apply Kept.drewN | apply Kept.drew) | exact HK.out)⟩, ⟨by repeat (first | (with_reducible first | exact HB.out | apply below_alloc | apply pw_below_drewN | apply below_drew1) | exact HB.out)⟩⟩
  replace c14 := Bool.eq_false_iff.mpr c14
  subst c14
  have H1 : ((slices_breakPatternsOrdered_uint32.f x0_1 x1_1 x2_1).bind fun t152 => (slices_pdqsortOrdered_uint32.j1 k1 t152 x1_1 x2_1 (wrap64 (x3_1 - 1)) false x9_1 (wrap64 (x2_1 - x1_1)))) = some r := by rw [if_neg (show ¬ (false = true) by decide)] at H; exact H
  clear H
  have H := H1
  clear H1
  replace H := Option.bind_eq_some_iff.mp H
  obtain ⟨t152, A150, H⟩ := H
  replace H : (slices_pdqsortOrdered_uint32.j1 k1 t152 x1_1 x2_1 (wrap64 (x3_1 - 1)) false x9_1 (wrap64 (x2_1 - x1_1))) = some r := H
  have A15 := Aside0.mk A150
  clear A150
  have H' := Aside0.mk H
  clear H
  obtain ⟨Ao16, co16, eo16⟩ := Kd.R_slice HO_0.out
  subst eo16
  go_wp2_with (first | (go_at_call 85; (with_reducible refine (slices_breakPatternsOrdered_uint32.calls (fun k_ => some k_ = (.slice Ao16 x0_1.length co16 : Value).ownBlock) (.slice Ao16 x0_1.length co16) x0_1 x1_1 x2_1 t152 w0 _ ?side1 ?side2 A15.out).mono ?_); (case side1 => repeat (first | (with_reducible first | exact HB.out | apply below_alloc | apply pw_below_drewN | apply below_drew1) | exact HB.out)); (case side2 => exact Kd.R_tight rfl HO_0.out); rintro e w17 ⟨rfl, hy0, hb, hkp⟩; have n0_ := Aside0.mk (Kd.R_reok rfl hy0 (fun k_ e_ => HO_0.out.1 k_ e_)); have n1_ := Aside0.mk (Kept.then_ (S := (fun k_ => P0_ k_)) (by repeat (first | (with_reducible first | exact HK.out | apply Kept.alloc | apply Kept.drewN | apply Kept.drew) | exact HK.out)) hkp (fun k_ hs_ => (fun e_ => (HO_0.out.1 k_ e_.symm)) hs_)); have n2_ := Aside0.mk (hb); clear HO_0; clear HK; clear HB; have HO_0 := n0_; have HK := n1_; have HB := n2_; clear n0_ n1_ n2_; (try clear hb); (try clear hkp); (try clear hy0)))
  repeat (go_quiet (first | (go_at_call 85; (with_reducible refine (slices_breakPatternsOrdered_uint32.calls (fun k_ => some k_ = (.slice Ao16 x0_1.length co16 : Value).ownBlock) (.slice Ao16 x0_1.length co16) x0_1 x1_1 x2_1 t152 w0 _ ?side1 ?side2 A15.out).mono ?_); (case side1 => repeat (first | (with_reducible first | exact HB.out | apply below_alloc | apply pw_below_drewN | apply below_drew1) | exact HB.out)); (case side2 => exact Kd.R_tight rfl HO_0.out); rintro e w17 ⟨rfl, hy0, hb, hkp⟩; have n0_ := Aside0.mk (Kd.R_reok rfl hy0 (fun k_ e_ => HO_0.out.1 k_ e_)); have n1_ := Aside0.mk (Kept.then_ (S := (fun k_ => P0_ k_)) (by repeat (first | (with_reducible first | exact HK.out | apply Kept.alloc | apply Kept.drewN | apply Kept.drew) | exact HK.out)) hkp (fun k_ hs_ => (fun e_ => (HO_0.out.1 k_ e_.symm)) hs_)); have n2_ := Aside0.mk (hb); clear HO_0; clear HK; clear HB; have HO_0 := n0_; have HK := n1_; have HB := n2_; clear n0_ n1_ n2_; (try clear hb); (try clear hkp); (try clear hy0))); try go_wp2_with (first | (go_at_call 85; (with_reducible refine (slices_breakPatternsOrdered_uint32.calls (fun k_ => some k_ = (.slice Ao16 x0_1.length co16 : Value).ownBlock) (.slice Ao16 x0_1.length co16) x0_1 x1_1 x2_1 t152 w0 _ ?side1 ?side2 A15.out).mono ?_); (case side1 => repeat (first | (with_reducible first | exact HB.out | apply below_alloc | apply pw_below_drewN | apply below_drew1) | exact HB.out)); (case side2 => exact Kd.R_tight rfl HO_0.out); rintro e w17 ⟨rfl, hy0, hb, hkp⟩; have n0_ := Aside0.mk (Kd.R_reok rfl hy0 (fun k_ e_ => HO_0.out.1 k_ e_)); have n1_ := Aside0.mk (Kept.then_ (S := (fun k_ => P0_ k_)) (by repeat (first | (with_reducible first | exact HK.out | apply Kept.alloc | apply Kept.drewN | apply Kept.drew) | exact HK.out)) hkp (fun k_ hs_ => (fun e_ => (HO_0.out.1 k_ e_.symm)) hs_)); have n2_ := Aside0.mk (hb); clear HO_0; clear HK; clear HB; have HO_0 := n0_; have HK := n1_; have HB := n2_; clear n0_ n1_ n2_; (try clear hb); (try clear hkp); (try clear hy0))))
  go_meet
  case rel => exact ⟨_, (t152), (wrap64 (x3_1 - 1)), (by first | rfl | (simp; done) | (simp [*]; done)), H', ⟨by have := HK1.out; first | omega | exact Nat.le_refl _⟩, ⟨by (with_reducible repeat (first | apply Kd.R_alloc | apply Kd.R_drewN | apply Kd.R_drew)); exact HO_0.out⟩, ⟨by repeat (first | (with_reducible first | exact HK.out | apply Kept.alloc | apply Kept.drewN | apply Kept.drew) | exact HK.out)⟩, ⟨by repeat (first | (with_reducible first | exact HB.out | apply below_alloc | apply pw_below_drewN | apply below_drew1) | exact HB.out)⟩⟩
 case rest =>
 clear HC13
 try clear c1
 try clear p2
 try clear c5
 try clear c5b0
 try clear p6
 try clear c7
 try clear c9
 try clear c9b0
 try clear c9b1
 try clear c14
 try clear p2
 obtain ⟨kq, x0_12, x3_12, rfl, HA, HJ12, HO_0, HK, HB⟩ := hcut
 cases kq with
 | zero => exact absurd HA.out (by simp [slices_pdqsortOrdered_uint32.j1])
 | succ kj12 =>
 have H := HA.out
 clear HA
 simp only [slices_pdqsortOrdered_uint32.j1] at H
 replace H := Option.bind_eq_some_iff.mp H
 obtain ⟨⟨t153, t154⟩, A180, H⟩ := H
 replace H : (if t154 = 2 then ((slices_reverseRangeOrdered_uint32.f x0_12 x1_1 x2_1).bind fun t155 => (slices_pdqsortOrdered_uint32.j2 kj12 t155 x1_1 x2_1 x3_12 x8_1 x9_1 (wrap64 (x2_1 - x1_1)) (wrap64 ((wrap64 (x2_1 - 1)) - (wrap64 (t153 - x1_1)))) 1)) else (slices_pdqsortOrdered_uint32.j2 kj12 x0_12 x1_1 x2_1 x3_12 x8_1 x9_1 (wrap64 (x2_1 - x1_1)) t153 t154)) = some r := H
 have A18 := Aside0.mk A180
 clear A180
 have HC19 := Aside0.mk H
 clear H
 obtain ⟨Ao20, co20, eo20⟩ := Kd.R_slice HO_0.out
 subst eo20
 go_upto_if 50 with (first | (go_at_call 86; (with_reducible refine (slices_choosePivotOrdered_uint32.calls _ _ x0_12 x1_1 x2_1 t153 t154 _ ?side1 ?side2 A18.out).mono ?_); (case side1 => repeat (first | exact (Kd.R_reads' HO_0.out).2.2 | (with_reducible refine Kd.C_alloc ?_ _) | (with_reducible refine Kd.C_drewN ?_ _) | (with_reducible refine Kd.C_drew ?_))); (case side2 => exact (Kd.R_reads' HO_0.out).2.1); rintro e w21 ⟨rfl, hb⟩; have n0_ := Aside0.mk (Kd.R_below (by (with_reducible repeat (first | apply Kd.R_alloc | apply Kd.R_drewN | apply Kd.R_drew)); exact HO_0.out) hb); have n1_ := Aside0.mk (Kept.below (S := (fun k_ => P0_ k_)) (by repeat (first | (with_reducible first | exact HK.out | apply Kept.alloc | apply Kept.drewN | apply Kept.drew) | exact HK.out)) hb); have n2_ := Aside0.mk (below_step (by repeat (first | (with_reducible first | exact HB.out | apply below_alloc | apply pw_below_drewN | apply below_drew1) | exact HB.out)) hb); clear HO_0; clear HK; clear HB; have HO_0 := n0_; have HK := n1_; have HB := n2_; clear n0_ n1_ n2_; (try clear hb); (try clear hb2); (try clear hk); (try clear hi)))
 repeat (go_quiet (first | (go_at_call 86; (with_reducible refine (slices_choosePivotOrdered_uint32.calls _ _ x0_12 x1_1 x2_1 t153 t154 _ ?side1 ?side2 A18.out).mono ?_); (case side1 => repeat (first | exact (Kd.R_reads' HO_0.out).2.2 | (with_reducible refine Kd.C_alloc ?_ _) | (with_reducible refine Kd.C_drewN ?_ _) | (with_reducible refine Kd.C_drew ?_))); (case side2 => exact (Kd.R_reads' HO_0.out).2.1); rintro e w21 ⟨rfl, hb⟩; have n0_ := Aside0.mk (Kd.R_below (by (with_reducible repeat (first | apply Kd.R_alloc | apply Kd.R_drewN | apply Kd.R_drew)); exact HO_0.out) hb); have n1_ := Aside0.mk (Kept.below (S := (fun k_ => P0_ k_)) (by repeat (first | (with_reducible first | exact HK.out | apply Kept.alloc | apply Kept.drewN | apply Kept.drew) | exact HK.out)) hb); have n2_ := Aside0.mk (below_step (by repeat (first | (with_reducible first | exact HB.out | apply below_alloc | apply pw_below_drewN | apply below_drew1) | exact HB.out)) hb); clear HO_0; clear HK; clear HB; have HO_0 := n0_; have HK := n1_; have HB := n2_; clear n0_ n1_ n2_; (try clear hb); (try clear hb2); (try clear hk); (try clear hi))); go_upto_if 50 with (first | (go_at_call 86; (with_reducible refine (slices_choosePivotOrdered_uint32.calls _ _ x0_12 x1_1 x2_1 t153 t154 _ ?side1 ?side2 A18.out).mono ?_); (case side1 => repeat (first | exact (Kd.R_reads' HO_0.out).2.2 | (with_reducible refine Kd.C_alloc ?_ _) | (with_reducible refine Kd.C_drewN ?_ _) | (with_reducible refine Kd.C_drew ?_))); (case side2 => exact (Kd.R_reads' HO_0.out).2.1); rintro e w21 ⟨rfl, hb⟩; have n0_ := Aside0.mk (Kd.R_below (by (with_reducible repeat (first | apply Kd.R_alloc | apply Kd.R_drewN | apply Kd.R_drew)); exact HO_0.out) hb); have n1_ := Aside0.mk (Kept.below (S := (fun k_ => P0_ k_)) (by repeat (first | (with_reducible first | exact HK.out | apply Kept.alloc | apply Kept.drewN | apply Kept.drew) | exact HK.out)) hb); have n2_ := Aside0.mk (below_step (by repeat (first | (with_reducible first | exact HB.out | apply below_alloc | apply pw_below_drewN | apply below_drew1) | exact HB.out)) hb); clear HO_0; clear HK; clear HB; have HO_0 := n0_; have HK := n1_; have HB := n2_; clear n0_ n1_ n2_; (try clear hb); (try clear hb2); (try clear hk); (try clear hi))))
 (try simp only [Act.put, List.setIfInBounds_toArray, List.set_cons_zero, List.set_cons_succ])
 go_cut [11, 12] (fun v11 v12 wc => ∃ (kq : Nat) (x0_18 : List Int) (x11_18 : Int) (x12_18 : Int), v11 = .int .i64 x11_18 ∧ v12 = .int .i64 x12_18 ∧ Aside0 (slices_pdqsortOrdered_uint32.j2 kq x0_18 x1_1 x2_1 x3_12 x8_1 x9_1 (wrap64 (x2_1 - x1_1)) x11_18 x12_18 = some r) ∧ Aside0 (kq ≤ kj12) ∧ Aside0 (Kd.R (Kd.int .u32) 25 wc w0.heap.size (fun k_ => (P0_ k_ ∨ w.heap.size ≤ k_)) (.slice Ao20 x0_12.length co20) x0_18) ∧ Aside0 (Kept w wc (fun k_ => P0_ k_)) ∧ Aside0 (Below w0.heap.size w0 wc))
 case first =>
  have H := HC19.out
  clear HC19
  by_cases c22 : t154 = 2
  rotate_left
  · rw [if_neg c22] at H
    have c22b0 : (t154 == 2) = false := beq_eq_false_iff_ne.mpr c22
    have c22b1 : (t154 != 2) = true := bne_iff_ne.mpr c22
    (first | rw [c22b0] | (simp only [i64_w, i32_w]; rw [c22b0]) | skip)
    have H' := Aside0.mk H
    clear H
    go_wp2
    repeat (go_quiet (fail); try go_wp2)
    go_meet
    case rel => exact ⟨_, (x0_12), (t153), (t154), (by first | rfl | (simp; done) | (simp [*]; done)), (by first | rfl | (simp; done) | (simp [*]; done)), H', ⟨by have := HK1.out; have := HJ12.out; first | omega | exact Nat.le_refl _⟩, ⟨by (with_reducible repeat (first | apply Kd.R_alloc | apply Kd.R_drewN | apply Kd.R_drew)); exact HO_0.out⟩, ⟨by repeat (first | (with_reducible first | exact HK.out | apply Kept.alloc | apply Kept.drewN | apply Kept.drew) | exact HK.out)⟩, ⟨by repeat (first | (with_reducible first | exact HB.out | apply below_alloc | apply pw_below_drewN | apply below_drew1) | exact HB.out)⟩⟩
  rw [if_pos c22] at H
  have c22b0 : (t154 == 2) = true := beq_iff_eq.mpr c22
  have c22b1 : (t154 != 2) = false := bne_eq_false_iff_eq.mpr c22
  clear c22
  (first | rw [c22b0] | (simp only [i64_w, i32_w]; rw [c22b0]) | skip)
  replace H := Option.bind_eq_some_iff.mp H
  obtain ⟨t155, A230, H⟩ := H
  replace H : (slices_pdqsortOrdered_uint32.j2 kj12 t155 x1_1 x2_1 x3_12 x8_1 x9_1 (wrap64 (x2_1 - x1_1)) (wrap64 ((wrap64 (x2_1 - 1)) - (wrap64 (t153 - x1_1)))) 1) = some r := H
  have A23 := Aside0.mk A230
  clear A230
  have H' := Aside0.mk H
  clear H
  go_wp2_with (first | (go_at_call 87; (with_reducible refine (slices_reverseRangeOrdered_uint32.calls (fun k_ => some k_ = (.slice Ao20 x0_12.length co20 : Value).ownBlock) (.slice Ao20 x0_12.length co20) x0_12 x1_1 x2_1 t155 w0 _ ?side1 ?side2 A23.out).mono ?_); (case side1 => repeat (first | (with_reducible first | exact HB.out | apply below_alloc | apply pw_below_drewN | apply below_drew1) | exact HB.out)); (case side2 => exact Kd.R_tight rfl HO_0.out); rintro e w24 ⟨rfl, hy0, hb, hkp⟩; have n0_ := Aside0.mk (Kd.R_reok rfl hy0 (fun k_ e_ => HO_0.out.1 k_ e_)); have n1_ := Aside0.mk (Kept.then_ (S := (fun k_ => P0_ k_)) (by repeat (first | (with_reducible first | exact HK.out | apply Kept.alloc | apply Kept.drewN | apply Kept.drew) | exact HK.out)) hkp (fun k_ hs_ => (fun e_ => (HO_0.out.1 k_ e_.symm)) hs_)); have n2_ := Aside0.mk (hb); clear HO_0; clear HK; clear HB; have HO_0 := n0_; have HK := n1_; have HB := n2_; clear n0_ n1_ n2_; (try clear hb); (try clear hkp); (try clear hy0)))
  repeat (go_quiet (first | (go_at_call 87; (with_reducible refine (slices_reverseRangeOrdered_uint32.calls (fun k_ => some k_ = (.slice Ao20 x0_12.length co20 : Value).ownBlock) (.slice Ao20 x0_12.length co20) x0_12 x1_1 x2_1 t155 w0 _ ?side1 ?side2 A23.out).mono ?_); (case side1 => repeat (first | (with_reducible first | exact HB.out | apply below_alloc | apply pw_below_drewN | apply below_drew1) | exact HB.out)); (case side2 => exact Kd.R_tight rfl HO_0.out); rintro e w24 ⟨rfl, hy0, hb, hkp⟩; have n0_ := Aside0.mk (Kd.R_reok rfl hy0 (fun k_ e_ => HO_0.out.1 k_ e_)); have n1_ := Aside0.mk (Kept.then_ (S := (fun k_ => P0_ k_)) (by repeat (first | (with_reducible first | exact HK.out | apply Kept.alloc | apply Kept.drewN | apply Kept.drew) | exact HK.out)) hkp (fun k_ hs_ => (fun e_ => (HO_0.out.1 k_ e_.symm)) hs_)); have n2_ := Aside0.mk (hb); clear HO_0; clear HK; clear HB; have HO_0 := n0_; have HK := n1_; have HB := n2_; clear n0_ n1_ n2_; (try clear hb); (try clear hkp); (try clear hy0))); try go_wp2_with (first | (go_at_call 87; (with_reducible refine (slices_reverseRangeOrdered_uint32.calls (fun k_ => some k_ = (.slice Ao20 x0_12.length co20 : Value).ownBlock) (.slice Ao20 x0_12.length co20) x0_12 x1_1 x2_1 t155 w0 _ ?side1 ?side2 A23.out).mono ?_); (case side1 => repeat (first | (with_reducible first | exact HB.out | apply below_alloc | apply pw_below_drewN | apply below_drew1) | exact HB.out)); (case side2 => exact Kd.R_tight rfl HO_0.out); rintro e w24 ⟨rfl, hy0, hb, hkp⟩; have n0_ := Aside0.mk (Kd.R_reok rfl hy0 (fun k_ e_ => HO_0.out.1 k_ e_)); have n1_ := Aside0.mk (Kept.then_ (S := (fun k_ => P0_ k_)) (by repeat (first | (with_reducible first | exact HK.out | apply Kept.alloc | apply Kept.drewN | apply Kept.drew) | exact HK.out)) hkp (fun k_ hs_ => (fun e_ => (HO_0.out.1 k_ e_.symm)) hs_)); have n2_ := Aside0.mk (hb); clear HO_0; clear HK; clear HB; have HO_0 := n0_; have HK := n1_; have HB := n2_; clear n0_ n1_ n2_; (try clear hb); (try clear hkp); (try clear hy0))))
  go_meet
  case rel => exact ⟨_, (t155), (wrap64 ((wrap64 (x2_1 - 1)) - (wrap64 (t153 - x1_1)))), (1), (by first | rfl | (simp; done) | (simp [*]; done)), (by first | rfl | (simp; done) | (simp [*]; done)), H', ⟨by have := HK1.out; have := HJ12.out; first | omega | exact Nat.le_refl _⟩, ⟨by (with_reducible repeat (first | apply Kd.R_alloc | apply Kd.R_drewN | apply Kd.R_drew)); exact HO_0.out⟩, ⟨by repeat (first | (with_reducible first | exact HK.out | apply Kept.alloc | apply Kept.drewN | apply Kept.drew) | exact HK.out)⟩, ⟨by repeat (first | (with_reducible first | exact HB.out | apply below_alloc | apply pw_below_drewN | apply below_drew1) | exact HB.out)⟩⟩
 case rest =>
 clear HC19
 try clear c1
 try clear c2
 try clear p2
 try clear c5
 try clear c5b0
 try clear p6
 try clear c7
 try clear c9
 try clear c9b0
 try clear c9b1
 try clear c14
 try clear c22
 try clear c22b0
 try clear c22b1
 try clear p2
 try clear p6
 obtain ⟨kq, x0_18, x11_18, x12_18, rfl, rfl, HA, HJ18, HO_0, HK, HB⟩ := hcut
 have hl0_18 := (Kd.R_reads' HO_0.out).1
 rw [hl0_18] at HO_0
 (try simp only [hl0_18])
 cases kq with
 | zero => exact absurd HA.out (by simp [slices_pdqsortOrdered_uint32.j2])
 | succ kj18 =>
 have H := HA.out
 clear HA
 simp only [slices_pdqsortOrdered_uint32.j2] at H
 have HC25 := Aside0.mk H
 clear H
 go_upto_region 15 with (fail)
 repeat (go_quiet (fail); go_upto_region 15 with (fail))
 go_cut [68] (fun v68 wc => ∃ (kq : Nat) (x68_24 : Bool), v68 = .bool x68_24 ∧ Aside0 (slices_pdqsortOrdered_uint32.j3 kq x0_18 x1_1 x2_1 x3_12 x8_1 x9_1 (wrap64 (x2_1 - x1_1)) x11_18 x68_24 = some r) ∧ Aside0 (kq ≤ kj18) ∧ Aside0 (Kd.R (Kd.int .u32) 25 wc w0.heap.size (fun k_ => (P0_ k_ ∨ w.heap.size ≤ k_)) (.slice Ao20 x0_18.length co20) x0_18) ∧ Aside0 (Kept w wc (fun k_ => P0_ k_)) ∧ Aside0 (Below w0.heap.size w0 wc))
 case first =>
  have H := HC25.out
  clear HC25
  by_cases c26 : x8_1 = true
  rotate_left
  · replace c26 := Bool.eq_false_iff.mpr c26
    subst c26
    have H1 : (slices_pdqsortOrdered_uint32.j3 kj18 x0_18 x1_1 x2_1 x3_12 false x9_1 (wrap64 (x2_1 - x1_1)) x11_18 false) = some r := by rw [if_neg (show ¬ (false = true) by decide)] at H; exact H
    clear H
    have H := H1
    clear H1
    have H' := Aside0.mk H
    clear H
    go_wp2
    repeat (go_quiet (fail); try go_wp2)
    go_meet
    case rel => exact ⟨_, (false), (by first | rfl | (simp; done) | (simp [*]; done)), H', ⟨by have := HK1.out; have := HJ12.out; have := HJ18.out; first | omega | exact Nat.le_refl _⟩, ⟨by (try simp only [hl0_18]); (with_reducible repeat (first | apply Kd.R_alloc | apply Kd.R_drewN | apply Kd.R_drew)); exact HO_0.out⟩, ⟨by repeat (first | (with_reducible first | exact HK.out | apply Kept.alloc | apply Kept.drewN | apply Kept.drew) | exact HK.out)⟩, ⟨by repeat (first | (with_reducible first | exact HB.out | apply below_alloc | apply pw_below_drewN | apply below_drew1) | exact HB.out)⟩⟩
  subst c26
  have H1 : (if x9_1 = true then (slices_pdqsortOrdered_uint32.j3 kj18 x0_18 x1_1 x2_1 x3_12 true x9_1 (wrap64 (x2_1 - x1_1)) x11_18 (x12_18 == 1)) else (slices_pdqsortOrdered_uint32.j3 kj18 x0_18 x1_1 x2_1 x3_12 true x9_1 (wrap64 (x2_1 - x1_1)) x11_18 false)) = some r := by rw [if_pos rfl] at H; exact H
  clear H
  have H := H1
  clear H1
  by_cases c27 : x9_1 = true
  · subst c27
    have H1 : (slices_pdqsortOrdered_uint32.j3 kj18 x0_18 x1_1 x2_1 x3_12 true true (wrap64 (x2_1 - x1_1)) x11_18 (x12_18 == 1)) = some r := by rw [if_pos rfl] at H; exact H
    clear H
    have H := H1
    clear H1
    have H' := Aside0.mk H
    clear H
    go_wp2
    repeat (go_quiet (fail); try go_wp2)
    go_meet
    case rel => exact ⟨_, ((x12_18 == 1)), (by first | rfl | (simp; done) | (simp [*]; done)), H', ⟨by have := HK1.out; have := HJ12.out; have := HJ18.out; first | omega | exact Nat.le_refl _⟩, ⟨by (try simp only [hl0_18]); (with_reducible repeat (first | apply Kd.R_alloc | apply Kd.R_drewN | apply Kd.R_drew)); exact HO_0.out⟩, ⟨by repeat (first | (with_reducible first | exact HK.out | apply Kept.alloc | apply Kept.drewN | apply Kept.drew) | exact HK.out)⟩, ⟨by repeat (first | (with_reducible first | exact HB.out | apply below_alloc | apply pw_below_drewN | apply below_drew1) | exact HB.out)⟩⟩
  replace c27 := Bool.eq_false_iff.mpr c27
  subst c27
  have H1 : (slices_pdqsortOrdered_uint32.j3 kj18 x0_18 x1_1 x2_1 x3_12 true false (wrap64 (x2_1 - x1_1)) x11_18 false) = some r := by rw [if_neg (show ¬ (false = true) by decide)] at H; exact H
  clear H
  have H := H1
  clear H1
  have H' := Aside0.mk H
  clear H
  go_wp2
  repeat (go_quiet (fail); try go_wp2)
  go_meet
  case rel => exact ⟨_, (false), (by first | rfl | (simp; done) | (simp [*]; done)), H', ⟨by have := HK1.out; have := HJ12.out; have := HJ18.out; first | omega | exact Nat.le_refl _⟩, ⟨by (try simp only [hl0_18]); (with_reducible repeat (first | apply Kd.R_alloc | apply Kd.R_drewN | apply Kd.R_drew)); exact HO_0.out⟩, ⟨by repeat (first | (with_reducible first | exact HK.out | apply Kept.alloc | apply Kept.drewN | apply Kept.drew) | exact HK.out)⟩, ⟨by repeat (first | (with_reducible first | exact HB.out | apply below_alloc | apply pw_below_drewN | apply below_drew1) | exact HB.out)⟩⟩
 case rest =>
 clear HC25
 try clear c1
 try clear c2
 try clear p2
 try clear c5
 try clear c5b0
 try clear p6
 try clear c7
 try clear c9
 try clear c9b0
 try clear c9b1
 try clear c14
 try clear c22
 try clear c22b0
 try clear c22b1
 try clear c26
 try clear c27
 try clear p2
 try clear p6
 obtain ⟨kq, x68_24, rfl, HA, HJ24, HO_0, HK, HB⟩ := hcut
 cases kq with
 | zero => exact absurd HA.out (by simp [slices_pdqsortOrdered_uint32.j3])
 | succ kj24 =>
 have H := HA.out
 clear HA
 simp only [slices_pdqsortOrdered_uint32.j3] at H
 have HC28 := Aside0.mk H
 clear H
 go_upto_if 68 with (fail)
 repeat (go_quiet (fail); go_upto_if 68 with (fail))
 go_cut [] (fun wc => ∃ (kq : Nat) (x0_27 : List Int), Aside0 (slices_pdqsortOrdered_uint32.j4 kq x0_27 x1_1 x2_1 x3_12 x8_1 x9_1 (wrap64 (x2_1 - x1_1)) x11_18 = some r) ∧ Aside0 (kq ≤ kj24) ∧ Aside0 (Kd.R (Kd.int .u32) 25 wc w0.heap.size (fun k_ => (P0_ k_ ∨ w.heap.size ≤ k_)) (.slice Ao20 x0_18.length co20) x0_27) ∧ Aside0 (Kept w wc (fun k_ => P0_ k_)) ∧ Aside0 (Below w0.heap.size w0 wc))
 case first =>
  have H := HC28.out
  clear HC28
  by_cases c29 : x68_24 = true
  rotate_left
  · replace c29 := Bool.eq_false_iff.mpr c29
    subst c29
    have H1 : (slices_pdqsortOrdered_uint32.j4 kj24 x0_18 x1_1 x2_1 x3_12 x8_1 x9_1 (wrap64 (x2_1 - x1_1)) x11_18) = some r := by rw [if_neg (show ¬ (false = true) by decide)] at H; exact H
    clear H
    have H := H1
    clear H1
    have H' := Aside0.mk H
    clear H
    go_wp2
    repeat (go_quiet (fail); try go_wp2)
    go_meet
    case rel => exact ⟨_, (x0_18), H', ⟨by have := HK1.out; have := HJ12.out; have := HJ18.out; have := HJ24.out; first | omega | exact Nat.le_refl _⟩, ⟨by (try simp only [hl0_18]); (with_reducible repeat (first | apply Kd.R_alloc | apply Kd.R_drewN | apply Kd.R_drew)); exact HO_0.out⟩, ⟨by repeat (first | (with_reducible first | exact HK.out | apply Kept.alloc | apply Kept.drewN | apply Kept.drew) | exact HK.out)⟩, ⟨by repeat (first | (with_reducible first | exact HB.out | apply below_alloc | apply pw_below_drewN | apply below_drew1) | exact HB.out)⟩⟩
  subst c29
  have H1 : ((slices_partialInsertionSortOrdered_uint32.f x0_18 x1_1 x2_1).bind fun bt156 => (if bt156.1 = true then (some bt156.2) else (slices_pdqsortOrdered_uint32.j4 kj24 bt156.2 x1_1 x2_1 x3_12 x8_1 x9_1 (wrap64 (x2_1 - x1_1)) x11_18))) = some r := by rw [if_pos rfl] at H; exact H
  clear H
  have H := H1
  clear H1
  replace H := Option.bind_eq_some_iff.mp H
  obtain ⟨⟨t156, t157⟩, A300, H⟩ := H
  replace H : (if t156 = true then (some t157) else (slices_pdqsortOrdered_uint32.j4 kj24 t157 x1_1 x2_1 x3_12 x8_1 x9_1 (wrap64 (x2_1 - x1_1)) x11_18)) = some r := H
  have A30 := Aside0.mk A300
  clear A300
  by_cases c31 : t156 = true
  · subst c31
    have H1 : (some t157) = some r := by rw [if_pos rfl] at H; exact H
    clear H
    have H := H1
    clear H1
    obtain rfl := Option.some.inj H
    go_wp2_with (first | (go_at_call 88; (with_reducible refine (slices_partialInsertionSortOrdered_uint32.calls (fun k_ => some k_ = (.slice Ao20 x0_18.length co20 : Value).ownBlock) (.slice Ao20 x0_18.length co20) x0_18 x1_1 x2_1 true t157 w0 _ ?side1 ?side2 A30.out).mono ?_); (case side1 => repeat (first | (with_reducible first | exact HB.out | apply below_alloc | apply pw_below_drewN | apply below_drew1) | exact HB.out)); (case side2 => exact Kd.R_tight rfl HO_0.out); rintro e w32 ⟨rfl, hy0, hb, hkp⟩; have n0_ := Aside0.mk (Kd.R_reok rfl hy0 (fun k_ e_ => HO_0.out.1 k_ e_)); have n1_ := Aside0.mk (Kept.then_ (S := (fun k_ => P0_ k_)) (by repeat (first | (with_reducible first | exact HK.out | apply Kept.alloc | apply Kept.drewN | apply Kept.drew) | exact HK.out)) hkp (fun k_ hs_ => (fun e_ => (HO_0.out.1 k_ e_.symm)) hs_)); have n2_ := Aside0.mk (hb); clear HO_0; clear HK; clear HB; have HO_0 := n0_; have HK := n1_; have HB := n2_; clear n0_ n1_ n2_; (try clear hb); (try clear hkp); (try clear hy0)))
    repeat (go_quiet (first | (go_at_call 88; (with_reducible refine (slices_partialInsertionSortOrdered_uint32.calls (fun k_ => some k_ = (.slice Ao20 x0_18.length co20 : Value).ownBlock) (.slice Ao20 x0_18.length co20) x0_18 x1_1 x2_1 true t157 w0 _ ?side1 ?side2 A30.out).mono ?_); (case side1 => repeat (first | (with_reducible first | exact HB.out | apply below_alloc | apply pw_below_drewN | apply below_drew1) | exact HB.out)); (case side2 => exact Kd.R_tight rfl HO_0.out); rintro e w32 ⟨rfl, hy0, hb, hkp⟩; have n0_ := Aside0.mk (Kd.R_reok rfl hy0 (fun k_ e_ => HO_0.out.1 k_ e_)); have n1_ := Aside0.mk (Kept.then_ (S := (fun k_ => P0_ k_)) (by repeat (first | (with_reducible first | exact HK.out | apply Kept.alloc | apply Kept.drewN | apply Kept.drew) | exact HK.out)) hkp (fun k_ hs_ => (fun e_ => (HO_0.out.1 k_ e_.symm)) hs_)); have n2_ := Aside0.mk (hb); clear HO_0; clear HK; clear HB; have HO_0 := n0_; have HK := n1_; have HB := n2_; clear n0_ n1_ n2_; (try clear hb); (try clear hkp); (try clear hy0))); try go_wp2_with (first | (go_at_call 88; (with_reducible refine (slices_partialInsertionSortOrdered_uint32.calls (fun k_ => some k_ = (.slice Ao20 x0_18.length co20 : Value).ownBlock) (.slice Ao20 x0_18.length co20) x0_18 x1_1 x2_1 true t157 w0 _ ?side1 ?side2 A30.out).mono ?_); (case side1 => repeat (first | (with_reducible first | exact HB.out | apply below_alloc | apply pw_below_drewN | apply below_drew1) | exact HB.out)); (case side2 => exact Kd.R_tight rfl HO_0.out); rintro e w32 ⟨rfl, hy0, hb, hkp⟩; have n0_ := Aside0.mk (Kd.R_reok rfl hy0 (fun k_ e_ => HO_0.out.1 k_ e_)); have n1_ := Aside0.mk (Kept.then_ (S := (fun k_ => P0_ k_)) (by repeat (first | (with_reducible first | exact HK.out | apply Kept.alloc | apply Kept.drewN | apply Kept.drew) | exact HK.out)) hkp (fun k_ hs_ => (fun e_ => (HO_0.out.1 k_ e_.symm)) hs_)); have n2_ := Aside0.mk (hb); clear HO_0; clear HK; clear HB; have HO_0 := n0_; have HK := n1_; have HB := n2_; clear n0_ n1_ n2_; (try clear hb); (try clear hkp); (try clear hy0))))
    first | go_end0 | ((try simp only [Exit.inBlock, Exit.then]); refine bodyPost_ret (results_none rfl _ _ _) rfl ?_)
    exact ⟨by first | rfl | (simp [errW_none, errW_some] <;> rfl) | (simp [*, errW_none, errW_some] <;> rfl), (by first | exact (by (with_reducible repeat (first | apply Kd.R_alloc | apply Kd.R_drewN | apply Kd.R_drew)); exact HO_0.out) | (simp only [hl0_18]; exact (by (with_reducible repeat (first | apply Kd.R_alloc | apply Kd.R_drewN | apply Kd.R_drew)); exact HO_0.out))), by repeat (first | (with_reducible first | exact HB.out | apply below_alloc | apply pw_below_drewN | apply below_drew1) | exact HB.out), by repeat (first | (with_reducible first | exact HK.out | apply Kept.alloc | apply Kept.drewN | apply Kept.drew) | exact HK.out)⟩
  replace c31 := Bool.eq_false_iff.mpr c31
  subst c31
  have H1 : (slices_pdqsortOrdered_uint32.j4 kj24 t157 x1_1 x2_1 x3_12 x8_1 x9_1 (wrap64 (x2_1 - x1_1)) x11_18) = some r := by rw [if_neg (show ¬ (false = true) by decide)] at H; exact H
  clear H
  have H := H1
  clear H1
  have H' := Aside0.mk H
  clear H
  go_wp2_with (first | (go_at_call 88; (with_reducible refine (slices_partialInsertionSortOrdered_uint32.calls (fun k_ => some k_ = (.slice Ao20 x0_18.length co20 : Value).ownBlock) (.slice Ao20 x0_18.length co20) x0_18 x1_1 x2_1 false t157 w0 _ ?side1 ?side2 A30.out).mono ?_); (case side1 => repeat (first | (with_reducible first | exact HB.out | apply below_alloc | apply pw_below_drewN | apply below_drew1) | exact HB.out)); (case side2 => exact Kd.R_tight rfl HO_0.out); rintro e w33 ⟨rfl, hy0, hb, hkp⟩; have n0_ := Aside0.mk (Kd.R_reok rfl hy0 (fun k_ e_ => HO_0.out.1 k_ e_)); have n1_ := Aside0.mk (Kept.then_ (S := (fun k_ => P0_ k_)) (by repeat (first | (with_reducible first | exact HK.out | apply Kept.alloc | apply Kept.drewN | apply Kept.drew) | exact HK.out)) hkp (fun k_ hs_ => (fun e_ => (HO_0.out.1 k_ e_.symm)) hs_)); have n2_ := Aside0.mk (hb); clear HO_0; clear HK; clear HB; have HO_0 := n0_; have HK := n1_; have HB := n2_; clear n0_ n1_ n2_; (try clear hb); (try clear hkp); (try clear hy0)))
  repeat (go_quiet (first | (go_at_call 88; (with_reducible refine (slices_partialInsertionSortOrdered_uint32.calls (fun k_ => some k_ = (.slice Ao20 x0_18.length co20 : Value).ownBlock) (.slice Ao20 x0_18.length co20) x0_18 x1_1 x2_1 false t157 w0 _ ?side1 ?side2 A30.out).mono ?_); (case side1 => repeat (first | (with_reducible first | exact HB.out | apply below_alloc | apply pw_below_drewN | apply below_drew1) | exact HB.out)); (case side2 => exact Kd.R_tight rfl HO_0.out); rintro e w33 ⟨rfl, hy0, hb, hkp⟩; have n0_ := Aside0.mk (Kd.R_reok rfl hy0 (fun k_ e_ => HO_0.out.1 k_ e_)); have n1_ := Aside0.mk (Kept.then_ (S := (fun k_ => P0_ k_)) (by repeat (first | (with_reducible first | exact HK.out | apply Kept.alloc | apply Kept.drewN | apply Kept.drew) | exact HK.out)) hkp (fun k_ hs_ => (fun e_ => (HO_0.out.1 k_ e_.symm)) hs_)); have n2_ := Aside0.mk (hb); clear HO_0; clear HK; clear HB; have HO_0 := n0_; have HK := n1_; have HB := n2_; clear n0_ n1_ n2_; (try clear hb); (try clear hkp); (try clear hy0))); try go_wp2_with (first | (go_at_call 88; (with_reducible refine (slices_partialInsertionSortOrdered_uint32.calls (fun k_ => some k_ = (.slice Ao20 x0_18.length co20 : Value).ownBlock) (.slice Ao20 x0_18.length co20) x0_18 x1_1 x2_1 false t157 w0 _ ?side1 ?side2 A30.out).mono ?_); (case side1 => repeat (first | (with_reducible first | exact HB.out | apply below_alloc | apply pw_below_drewN | apply below_drew1) | exact HB.out)); (case side2 => exact Kd.R_tight rfl HO_0.out); rintro e w33 ⟨rfl, hy0, hb, hkp⟩; have n0_ := Aside0.mk (Kd.R_reok rfl hy0 (fun k_ e_ => HO_0.out.1 k_ e_)); have n1_ := Aside0.mk (Kept.then_ (S := (fun k_ => P0_ k_)) (by repeat (first | (with_reducible first | exact HK.out | apply Kept.alloc | apply Kept.drewN | apply Kept.drew) | exact HK.out)) hkp (fun k_ hs_ => (fun e_ => (HO_0.out.1 k_ e_.symm)) hs_)); have n2_ := Aside0.mk (hb); clear HO_0; clear HK; clear HB; have HO_0 := n0_; have HK := n1_; have HB := n2_; clear n0_ n1_ n2_; (try clear hb); (try clear hkp); (try clear hy0))))
  go_meet
  case rel => exact ⟨_, (t157), H', ⟨by have := HK1.out; have := HJ12.out; have := HJ18.out; have := HJ24.out; first | omega | exact Nat.le_refl _⟩, ⟨by (try simp only [hl0_18]); (with_reducible repeat (first | apply Kd.R_alloc | apply Kd.R_drewN | apply Kd.R_drew)); exact HO_0.out⟩, ⟨by repeat (first | (with_reducible first | exact HK.out | apply Kept.alloc | apply Kept.drewN | apply Kept.drew) | exact HK.out)⟩, ⟨by repeat (first | (with_reducible first | exact HB.out | apply below_alloc | apply pw_below_drewN | apply below_drew1) | exact HB.out)⟩⟩
 case rest =>
 clear HC28
 try clear c1
 try clear c2
 try clear p2
 try clear c3
 try clear c5
 try clear c5b0
 try clear p6
 try clear c7
 try clear c9
 try clear c9b0
 try clear c9b1
 try clear c14
 try clear c22
 try clear c22b0
 try clear c22b1
 try clear c26
 try clear c27
 try clear c29
 try clear c31
 try clear p2
 try clear p6
 obtain ⟨kq, x0_27, HA, HJ27, HO_0, HK, HB⟩ := hcut
 have hl0_27 := (Kd.R_reads' HO_0.out).1
 rw [hl0_27] at HO_0
 (try simp only [hl0_27])
 cases kq with
 | zero => exact absurd HA.out (by simp [slices_pdqsortOrdered_uint32.j4])
 | succ kj27 =>
 have H := HA.out
 clear HA
 simp only [slices_pdqsortOrdered_uint32.j4] at H
 have HC34 := Aside0.mk H
 clear H
 go_upto_region 17 with (fail)
 repeat (go_quiet (fail); go_upto_region 17 with (fail))
 go_cut [87] (fun v87 wc => ∃ (kq : Nat) (x87_33 : Bool), v87 = .bool x87_33 ∧ Aside0 (slices_pdqsortOrdered_uint32.j5 kq x0_27 x1_1 x2_1 x3_12 x8_1 x9_1 (wrap64 (x2_1 - x1_1)) x11_18 x87_33 = some r) ∧ Aside0 (kq ≤ kj27) ∧ Aside0 (Kd.R (Kd.int .u32) 25 wc w0.heap.size (fun k_ => (P0_ k_ ∨ w.heap.size ≤ k_)) (.slice Ao20 x0_27.length co20) x0_27) ∧ Aside0 (Kept w wc (fun k_ => P0_ k_)) ∧ Aside0 (Below w0.heap.size w0 wc))
 case first =>
  have H := HC34.out
  clear HC34
  by_cases c35 : x1_1 > 0
  rotate_left
  · rw [if_neg c35] at H
    have c35b0 : decide (0 < x1_1) = false := decide_eq_false c35
    clear c35
    (first | rw [c35b0] | (simp only [i64_w, i32_w]; rw [c35b0]) | skip)
    have H' := Aside0.mk H
    clear H
    go_wp2
    repeat (go_quiet (fail); try go_wp2)
    go_meet
    case rel => exact ⟨_, (false), (by first | rfl | (simp; done) | (simp [*]; done)), H', ⟨by have := HK1.out; have := HJ12.out; have := HJ18.out; have := HJ24.out; have := HJ27.out; first | omega | exact Nat.le_refl _⟩, ⟨by (try simp only [hl0_18]); (try simp only [hl0_27]); (with_reducible repeat (first | apply Kd.R_alloc | apply Kd.R_drewN | apply Kd.R_drew)); exact HO_0.out⟩, ⟨by repeat (first | (with_reducible first | exact HK.out | apply Kept.alloc | apply Kept.drewN | apply Kept.drew) | exact HK.out)⟩, ⟨by repeat (first | (with_reducible first | exact HB.out | apply below_alloc | apply pw_below_drewN | apply below_drew1) | exact HB.out)⟩⟩
  rw [if_pos c35] at H
  have c35b0 : decide (0 < x1_1) = true := decide_eq_true c35
  clear c35
  (first | rw [c35b0] | (simp only [i64_w, i32_w]; rw [c35b0]) | skip)
  obtain ⟨ji36, hji36⟩ : ∃ j_ : Int, (wrap64 (x1_1 - 1)) = j_ := ⟨_, rfl⟩
  replace H : (if 0 ≤ (ji36) then (if (ji36) < (x0_27.length : Int) then (if 0 ≤ x11_18 then (if x11_18 < (x0_27.length : Int) then ((cmp_Less_uint32.f (rd x0_27 (ji36)) (rd x0_27 x11_18)).bind fun t160 => (slices_pdqsortOrdered_uint32.j5 kj27 x0_27 x1_1 x2_1 x3_12 x8_1 x9_1 (wrap64 (x2_1 - x1_1)) x11_18 (!t160))) else (none)) else (none)) else (none)) else (none)) = some r := by first | (rw [hji36] at H; exact H) | (simp only [hji36] at H ⊢; exact H)
  have hji36w : (IntKind.i64.wrap (x1_1 - 1)) = ji36 := (i64_w _).trans hji36
  by_cases c37 : 0 ≤ (ji36)
  rotate_left
  · rw [if_neg c37] at H
    exact absurd H (by simp)
  rw [if_pos c37] at H
  have c37b0 : decide (0 ≤ (ji36)) = true := decide_eq_true c37
  clear c37
  by_cases c38 : (ji36) < (x0_27.length : Int)
  rotate_left
  · rw [if_neg c38] at H
    exact absurd H (by simp)
  rw [if_pos c38] at H
  have c38b0 : decide ((ji36) < (x0_27.length : Int)) = true := decide_eq_true c38
  clear c38
  by_cases c39 : 0 ≤ x11_18
  rotate_left
  · rw [if_neg c39] at H
    exact absurd H (by simp)
  rw [if_pos c39] at H
  have c39b0 : decide (0 ≤ x11_18) = true := decide_eq_true c39
  clear c39
  by_cases c40 : x11_18 < (x0_27.length : Int)
  rotate_left
  · rw [if_neg c40] at H
    exact absurd H (by simp)
  rw [if_pos c40] at H
  have c40b0 : decide (x11_18 < (x0_27.length : Int)) = true := decide_eq_true c40
  clear c40
  replace H := Option.bind_eq_some_iff.mp H
  obtain ⟨t160, A410, H⟩ := H
  replace H : (slices_pdqsortOrdered_uint32.j5 kj27 x0_27 x1_1 x2_1 x3_12 x8_1 x9_1 (wrap64 (x2_1 - x1_1)) x11_18 (!t160)) = some r := H
  have A41 := Aside0.mk A410
  clear A410
  have H' := Aside0.mk H
  clear H
  have p158 : 0 ≤ ((ji36) : Int) := of_decide_eq_true (by first | (with_reducible assumption) | assumption)
  have q158 : (ji36) < (x0_27.length : Int) := of_decide_eq_true (by first | (with_reducible assumption) | assumption)
  obtain ⟨ad158, e158, hx158_0⟩ := Kd.at_int (Kd.R_reads' HO_0.out).2.2 (ji36) p158 q158
  cases e158
  replace p158 := eq_true p158
  replace q158 := eq_true q158
  have p159 : 0 ≤ (x11_18 : Int) := of_decide_eq_true (by first | (with_reducible assumption) | assumption)
  have q159 : x11_18 < (x0_27.length : Int) := of_decide_eq_true (by first | (with_reducible assumption) | assumption)
  obtain ⟨ad159, e159, hx159_0⟩ := Kd.at_int (Kd.R_reads' HO_0.out).2.2 x11_18 p159 q159
  obtain rfl : ad158 = ad159 := (by injection e159)
  replace p159 := eq_true p159
  replace q159 := eq_true q159
  go_wp2_with (first | (go_at_call 89; (with_reducible refine (cmp_Less_uint32.calls (rd x0_27 (ji36)) (rd x0_27 x11_18) t160 _ A41.out).mono ?_); rintro e w' ⟨rfl, ⟨nd, rfl⟩⟩; (try first | exact ⟨rfl, _, World.drewN_drewN _ _ _⟩ | exact ⟨rfl, _, Eq.trans (World.drewN_drewN _ _ _) (congrArg (World.drewN _) (Nat.add_assoc _ _ _))⟩)))
  repeat (go_quiet (first | (go_at_call 89; (with_reducible refine (cmp_Less_uint32.calls (rd x0_27 (ji36)) (rd x0_27 x11_18) t160 _ A41.out).mono ?_); rintro e w' ⟨rfl, ⟨nd, rfl⟩⟩; (try first | exact ⟨rfl, _, World.drewN_drewN _ _ _⟩ | exact ⟨rfl, _, Eq.trans (World.drewN_drewN _ _ _) (congrArg (World.drewN _) (Nat.add_assoc _ _ _))⟩))); try go_wp2_with (first | (go_at_call 89; (with_reducible refine (cmp_Less_uint32.calls (rd x0_27 (ji36)) (rd x0_27 x11_18) t160 _ A41.out).mono ?_); rintro e w' ⟨rfl, ⟨nd, rfl⟩⟩; (try first | exact ⟨rfl, _, World.drewN_drewN _ _ _⟩ | exact ⟨rfl, _, Eq.trans (World.drewN_drewN _ _ _) (congrArg (World.drewN _) (Nat.add_assoc _ _ _))⟩))))
  go_meet
  case rel => exact ⟨_, (!t160), (by first | rfl | (simp; done) | (simp [*]; done)), H', ⟨by have := HK1.out; have := HJ12.out; have := HJ18.out; have := HJ24.out; have := HJ27.out; first | omega | exact Nat.le_refl _⟩, ⟨by (try simp only [hl0_18]); (try simp only [hl0_27]); (with_reducible repeat (first | apply Kd.R_alloc | apply Kd.R_drewN | apply Kd.R_drew)); exact HO_0.out⟩, ⟨by repeat (first | (with_reducible first | exact HK.out | apply Kept.alloc | apply Kept.drewN | apply Kept.drew) | exact HK.out)⟩, ⟨by repeat (first | (with_reducible first | exact HB.out | apply below_alloc | apply pw_below_drewN | apply below_drew1) | exact HB.out)⟩⟩
 case rest =>
 clear HC34
 try clear c1
 try clear p1
 try clear q1
 try clear hx1
 try clear c2
 try clear p2
 try clear c3
 try clear c4
 try clear c5
 try clear c5b0
 try clear p6
 try clear c7
 try clear c9
 try clear c9b0
 try clear c9b1
 try clear c14
 try clear p15
 try clear q15
 try clear hx15
 try clear c22
 try clear c22b0
 try clear c22b1
 try clear c26
 try clear c27
 try clear c29
 try clear c31
 try clear c35
 try clear c35b0
 try clear c37
 try clear c37b0
 try clear c38
 try clear c38b0
 try clear c39
 try clear c39b0
 try clear c40
 try clear c40b0
 try clear hx158_0
 try clear hx159_0
 try clear p158
 try clear p159
 try clear p2
 try clear p6
 try clear q158
 try clear q159
 obtain ⟨kq, x87_33, rfl, HA, HJ33, HO_0, HK, HB⟩ := hcut
 cases kq with
 | zero => exact absurd HA.out (by simp [slices_pdqsortOrdered_uint32.j5])
 | succ kj33 =>
 have H := HA.out
 clear HA
 simp only [slices_pdqsortOrdered_uint32.j5] at H
 by_cases c42 : x87_33 = true
 · subst c42
   have H1 : ((slices_partitionEqualOrdered_uint32.f x0_27 x1_1 x2_1 x11_18).bind fun bt161 => (slices_pdqsortOrdered_uint32.l0 kj33 bt161.2 bt161.1 x2_1 x3_12 x8_1 x9_1)) = some r := by rw [if_pos rfl] at H; exact H
   clear H
   have H := H1
   clear H1
   replace H := Option.bind_eq_some_iff.mp H
   obtain ⟨⟨t161, t162⟩, A430, H⟩ := H
   replace H : (slices_pdqsortOrdered_uint32.l0 kj33 t162 t161 x2_1 x3_12 x8_1 x9_1) = some r := H
   have A43 := Aside0.mk A430
   clear A430
   have H' := Aside0.mk H
   clear H
   go_wp2_with (first | (go_at_call 90; (with_reducible refine (slices_partitionEqualOrdered_uint32.calls (fun k_ => some k_ = (.slice Ao20 x0_27.length co20 : Value).ownBlock) (.slice Ao20 x0_27.length co20) x0_27 x1_1 x2_1 x11_18 t161 t162 w0 _ ?side1 ?side2 A43.out).mono ?_); (case side1 => repeat (first | (with_reducible first | exact HB.out | apply below_alloc | apply pw_below_drewN | apply below_drew1) | exact HB.out)); (case side2 => exact Kd.R_tight rfl HO_0.out); rintro e w44 ⟨rfl, hy0, hb, hkp⟩; have n0_ := Aside0.mk (Kd.R_reok rfl hy0 (fun k_ e_ => HO_0.out.1 k_ e_)); have n1_ := Aside0.mk (Kept.then_ (S := (fun k_ => P0_ k_)) (by repeat (first | (with_reducible first | exact HK.out | apply Kept.alloc | apply Kept.drewN | apply Kept.drew) | exact HK.out)) hkp (fun k_ hs_ => (fun e_ => (HO_0.out.1 k_ e_.symm)) hs_)); have n2_ := Aside0.mk (hb); clear HO_0; clear HK; clear HB; have HO_0 := n0_; have HK := n1_; have HB := n2_; clear n0_ n1_ n2_; (try clear hb); (try clear hkp); (try clear hy0)))
   repeat (go_quiet (first | (go_at_call 90; (with_reducible refine (slices_partitionEqualOrdered_uint32.calls (fun k_ => some k_ = (.slice Ao20 x0_27.length co20 : Value).ownBlock) (.slice Ao20 x0_27.length co20) x0_27 x1_1 x2_1 x11_18 t161 t162 w0 _ ?side1 ?side2 A43.out).mono ?_); (case side1 => repeat (first | (with_reducible first | exact HB.out | apply below_alloc | apply pw_below_drewN | apply below_drew1) | exact HB.out)); (case side2 => exact Kd.R_tight rfl HO_0.out); rintro e w44 ⟨rfl, hy0, hb, hkp⟩; have n0_ := Aside0.mk (Kd.R_reok rfl hy0 (fun k_ e_ => HO_0.out.1 k_ e_)); have n1_ := Aside0.mk (Kept.then_ (S := (fun k_ => P0_ k_)) (by repeat (first | (with_reducible first | exact HK.out | apply Kept.alloc | apply Kept.drewN | apply Kept.drew) | exact HK.out)) hkp (fun k_ hs_ => (fun e_ => (HO_0.out.1 k_ e_.symm)) hs_)); have n2_ := Aside0.mk (hb); clear HO_0; clear HK; clear HB; have HO_0 := n0_; have HK := n1_; have HB := n2_; clear n0_ n1_ n2_; (try clear hb); (try clear hkp); (try clear hy0))); try go_wp2_with (first | (go_at_call 90; (with_reducible refine (slices_partitionEqualOrdered_uint32.calls (fun k_ => some k_ = (.slice Ao20 x0_27.length co20 : Value).ownBlock) (.slice Ao20 x0_27.length co20) x0_27 x1_1 x2_1 x11_18 t161 t162 w0 _ ?side1 ?side2 A43.out).mono ?_); (case side1 => repeat (first | (with_reducible first | exact HB.out | apply below_alloc | apply pw_below_drewN | apply below_drew1) | exact HB.out)); (case side2 => exact Kd.R_tight rfl HO_0.out); rintro e w44 ⟨rfl, hy0, hb, hkp⟩; have n0_ := Aside0.mk (Kd.R_reok rfl hy0 (fun k_ e_ => HO_0.out.1 k_ e_)); have n1_ := Aside0.mk (Kept.then_ (S := (fun k_ => P0_ k_)) (by repeat (first | (with_reducible first | exact HK.out | apply Kept.alloc | apply Kept.drewN | apply Kept.drew) | exact HK.out)) hkp (fun k_ hs_ => (fun e_ => (HO_0.out.1 k_ e_.symm)) hs_)); have n2_ := Aside0.mk (hb); clear HO_0; clear HK; clear HB; have HO_0 := n0_; have HK := n1_; have HB := n2_; clear n0_ n1_ n2_; (try clear hb); (try clear hkp); (try clear hy0))))
   (try simp only [← hl0_18, ← hl0_27])
   go_roundg kj33
   case measure => have := HK1.out; have := HJ12.out; have := HJ18.out; have := HJ24.out; have := HJ27.out; have := HJ33.out; omega
   case rel => exact ⟨(t162), (t161), (x2_1), (x3_12), (x8_1), (x9_1), (by first | rfl | (simp; done) | (simp [*]; done)), (by first | rfl | (simp; done) | (simp [*]; done)), (by first | rfl | (simp; done) | (simp [*]; done)), (by first | rfl | (simp; done) | (simp [*]; done)), (by first | rfl | (simp; done) | (simp [*]; done)), H', ⟨by have := HK1.out; have := HJ12.out; have := HJ18.out; have := HJ24.out; have := HJ27.out; have := HJ33.out; omega⟩, ⟨by (try simp only [hl0_18]); (try simp only [hl0_27]); (with_reducible repeat (first | apply Kd.R_alloc | apply Kd.R_drewN | apply Kd.R_drew)); exact HO_0.out⟩, ⟨by repeat (first | (with_reducible first | exact HK.out | apply Kept.alloc | apply Kept.drewN | apply Kept.drew) | exact HK.out)⟩, ⟨by repeat (first | (with_reducible first | exact HB.out | apply below_alloc | apply pw_below_drewN | apply below_drew1) | exact HB.out)⟩⟩
 replace c42 := Bool.eq_false_iff.mpr c42
 subst c42
 have H1 : ((slices_partitionOrdered_uint32.f kj33 x0_27 x1_1 x2_1 x11_18).bind fun bt163 => (if (wrap64 (bt163.1 - x1_1)) < (wrap64 (x2_1 - bt163.1)) then ((slices_pdqsortOrdered_uint32.f kj33 bt163.2.2 x1_1 bt163.1 x3_12).bind fun t166 => (slices_pdqsortOrdered_uint32.l0 kj33 t166 (wrap64 (bt163.1 + 1)) x2_1 x3_12 (decide ((wrap64 (bt163.1 - x1_1)) ≥ (wrap64 (Int.tdiv (wrap64 (x2_1 - x1_1)) 8)))) bt163.2.1)) else ((slices_pdqsortOrdered_uint32.f kj33 bt163.2.2 (wrap64 (bt163.1 + 1)) x2_1 x3_12).bind fun t167 => (slices_pdqsortOrdered_uint32.l0 kj33 t167 x1_1 bt163.1 x3_12 (decide ((wrap64 (x2_1 - bt163.1)) ≥ (wrap64 (Int.tdiv (wrap64 (x2_1 - x1_1)) 8)))) bt163.2.1)))) = some r := by rw [if_neg (show ¬ (false = true) by decide)] at H; exact H
 clear H
 have H := H1
 clear H1
 replace H := Option.bind_eq_some_iff.mp H
 obtain ⟨⟨t163, t164, t165⟩, A450, H⟩ := H
 replace H : (if (wrap64 (t163 - x1_1)) < (wrap64 (x2_1 - t163)) then ((slices_pdqsortOrdered_uint32.f kj33 t165 x1_1 t163 x3_12).bind fun t166 => (slices_pdqsortOrdered_uint32.l0 kj33 t166 (wrap64 (t163 + 1)) x2_1 x3_12 (decide ((wrap64 (t163 - x1_1)) ≥ (wrap64 (Int.tdiv (wrap64 (x2_1 - x1_1)) 8)))) t164)) else ((slices_pdqsortOrdered_uint32.f kj33 t165 (wrap64 (t163 + 1)) x2_1 x3_12).bind fun t167 => (slices_pdqsortOrdered_uint32.l0 kj33 t167 x1_1 t163 x3_12 (decide ((wrap64 (x2_1 - t163)) ≥ (wrap64 (Int.tdiv (wrap64 (x2_1 - x1_1)) 8)))) t164))) = some r := H
 have A45 := Aside0.mk A450
 clear A450
 by_cases c46 : (wrap64 (t163 - x1_1)) < (wrap64 (x2_1 - t163))
 · rw [if_pos c46] at H
   have c46b0 : decide ((wrap64 (t163 - x1_1)) < (wrap64 (x2_1 - t163))) = true := decide_eq_true c46
   clear c46
   replace H := Option.bind_eq_some_iff.mp H
   obtain ⟨t166, A470, H⟩ := H
   replace H : (slices_pdqsortOrdered_uint32.l0 kj33 t166 (wrap64 (t163 + 1)) x2_1 x3_12 (decide ((wrap64 (t163 - x1_1)) ≥ (wrap64 (Int.tdiv (wrap64 (x2_1 - x1_1)) 8)))) t164) = some r := H
   have A47 := Aside0.mk A470
   clear A470
   have H' := Aside0.mk H
   clear H
   go_wp2_with (first | (go_at_call 91; (with_reducible refine (slices_partitionOrdered_uint32.calls kj33 (fun k_ => some k_ = (.slice Ao20 x0_27.length co20 : Value).ownBlock) (.slice Ao20 x0_27.length co20) x0_27 x1_1 x2_1 x11_18 t163 t164 t165 w0 _ ?side1 ?side2 A45.out).mono ?_); (case side1 => repeat (first | (with_reducible first | exact HB.out | apply below_alloc | apply pw_below_drewN | apply below_drew1) | exact HB.out)); (case side2 => exact Kd.R_tight rfl HO_0.out); rintro e w48 ⟨rfl, hy0, hb, hkp⟩; have n0_ := Aside0.mk (Kd.R_reok rfl hy0 (fun k_ e_ => HO_0.out.1 k_ e_)); have n1_ := Aside0.mk (Kept.then_ (S := (fun k_ => P0_ k_)) (by repeat (first | (with_reducible first | exact HK.out | apply Kept.alloc | apply Kept.drewN | apply Kept.drew) | exact HK.out)) hkp (fun k_ hs_ => (fun e_ => (HO_0.out.1 k_ e_.symm)) hs_)); have n2_ := Aside0.mk (hb); clear HO_0; clear HK; clear HB; have HO_0 := n0_; have HK := n1_; have HB := n2_; clear n0_ n1_ n2_; (try clear hb); (try clear hkp); (try clear hy0)) | (go_at_call 78; (with_reducible refine (ih kj33 (by have := HK1.out; have := HJ12.out; have := HJ18.out; have := HJ24.out; have := HJ27.out; have := HJ33.out; omega) (fun k_ => some k_ = (.slice Ao20 x0_27.length co20 : Value).ownBlock) (.slice Ao20 x0_27.length co20) t165 x1_1 t163 x3_12 t166 w0 _ ?side1 ?side2 A47.out).mono ?_); (case side1 => repeat (first | (with_reducible first | exact HB.out | apply below_alloc | apply pw_below_drewN | apply below_drew1) | exact HB.out)); (case side2 => exact Kd.R_tight rfl HO_0.out); rintro e w49 ⟨rfl, hy0, hb, hkp⟩; have n0_ := Aside0.mk (Kd.R_reok rfl hy0 (fun k_ e_ => HO_0.out.1 k_ e_)); have n1_ := Aside0.mk (Kept.then_ (S := (fun k_ => P0_ k_)) (by repeat (first | (with_reducible first | exact HK.out | apply Kept.alloc | apply Kept.drewN | apply Kept.drew) | exact HK.out)) hkp (fun k_ hs_ => (fun e_ => (HO_0.out.1 k_ e_.symm)) hs_)); have n2_ := Aside0.mk (hb); clear HO_0; clear HK; clear HB; have HO_0 := n0_; have HK := n1_; have HB := n2_; clear n0_ n1_ n2_; (try clear hb); (try clear hkp); (try clear hy0)))
   repeat (go_quiet (first | (go_at_call 91; (with_reducible refine (slices_partitionOrdered_uint32.calls kj33 (fun k_ => some k_ = (.slice Ao20 x0_27.length co20 : Value).ownBlock) (.slice Ao20 x0_27.length co20) x0_27 x1_1 x2_1 x11_18 t163 t164 t165 w0 _ ?side1 ?side2 A45.out).mono ?_); (case side1 => repeat (first | (with_reducible first | exact HB.out | apply below_alloc | apply pw_below_drewN | apply below_drew1) | exact HB.out)); (case side2 => exact Kd.R_tight rfl HO_0.out); rintro e w48 ⟨rfl, hy0, hb, hkp⟩; have n0_ := Aside0.mk (Kd.R_reok rfl hy0 (fun k_ e_ => HO_0.out.1 k_ e_)); have n1_ := Aside0.mk (Kept.then_ (S := (fun k_ => P0_ k_)) (by repeat (first | (with_reducible first | exact HK.out | apply Kept.alloc | apply Kept.drewN | apply Kept.drew) | exact HK.out)) hkp (fun k_ hs_ => (fun e_ => (HO_0.out.1 k_ e_.symm)) hs_)); have n2_ := Aside0.mk (hb); clear HO_0; clear HK; clear HB; have HO_0 := n0_; have HK := n1_; have HB := n2_; clear n0_ n1_ n2_; (try clear hb); (try clear hkp); (try clear hy0)) | (go_at_call 78; (with_reducible refine (ih kj33 (by have := HK1.out; have := HJ12.out; have := HJ18.out; have := HJ24.out; have := HJ27.out; have := HJ33.out; omega) (fun k_ => some k_ = (.slice Ao20 x0_27.length co20 : Value).ownBlock) (.slice Ao20 x0_27.length co20) t165 x1_1 t163 x3_12 t166 w0 _ ?side1 ?side2 A47.out).mono ?_); (case side1 => repeat (first | (with_reducible first | exact HB.out | apply below_alloc | apply pw_below_drewN | apply below_drew1) | exact HB.out)); (case side2 => exact Kd.R_tight rfl HO_0.out); rintro e w49 ⟨rfl, hy0, hb, hkp⟩; have n0_ := Aside0.mk (Kd.R_reok rfl hy0 (fun k_ e_ => HO_0.out.1 k_ e_)); have n1_ := Aside0.mk (Kept.then_ (S := (fun k_ => P0_ k_)) (by repeat (first | (with_reducible first | exact HK.out | apply Kept.alloc | apply Kept.drewN | apply Kept.drew) | exact HK.out)) hkp (fun k_ hs_ => (fun e_ => (HO_0.out.1 k_ e_.symm)) hs_)); have n2_ := Aside0.mk (hb); clear HO_0; clear HK; clear HB; have HO_0 := n0_; have HK := n1_; have HB := n2_; clear n0_ n1_ n2_; (try clear hb); (try clear hkp); (try clear hy0))); try go_wp2_with (first | (go_at_call 91; (with_reducible refine (slices_partitionOrdered_uint32.calls kj33 (fun k_ => some k_ = (.slice Ao20 x0_27.length co20 : Value).ownBlock) (.slice Ao20 x0_27.length co20) x0_27 x1_1 x2_1 x11_18 t163 t164 t165 w0 _ ?side1 ?side2 A45.out).mono ?_); (case side1 => repeat (first | (with_reducible first | exact HB.out | apply below_alloc | apply pw_below_drewN | apply below_drew1) | exact HB.out)); (case side2 => exact Kd.R_tight rfl HO_0.out); rintro e w48 ⟨rfl, hy0, hb, hkp⟩; have n0_ := Aside0.mk (Kd.R_reok rfl hy0 (fun k_ e_ => HO_0.out.1 k_ e_)); have n1_ := Aside0.mk (Kept.then_ (S := (fun k_ => P0_ k_)) (by repeat (first | (with_reducible first | exact HK.out | apply Kept.alloc | apply Kept.drewN | apply Kept.drew) | exact HK.out)) hkp (fun k_ hs_ => (fun e_ => (HO_0.out.1 k_ e_.symm)) hs_)); have n2_ := Aside0.mk (hb); clear HO_0; clear HK; clear HB; have HO_0 := n0_; have HK := n1_; have HB := n2_; clear n0_ n1_ n2_; (try clear hb); (try clear hkp); (try clear hy0)) | (go_at_call 78; (with_reducible refine (ih kj33 (by have := HK1.out; have := HJ12.out; have := HJ18.out; have := HJ24.out; have := HJ27.out; have := HJ33.out; omega) (fun k_ => some k_ = (.slice Ao20 x0_27.length co20 : Value).ownBlock) (.slice Ao20 x0_27.length co20) t165 x1_1 t163 x3_12 t166 w0 _ ?side1 ?side2 A47.out).mono ?_); (case side1 => repeat (first | (with_reducible first | exact HB.out | apply below_alloc | apply pw_below_drewN | apply below_drew1) | exact HB.out)); (case side2 => exact Kd.R_tight rfl HO_0.out); rintro e w49 ⟨rfl, hy0, hb, hkp⟩; have n0_ := Aside0.mk (Kd.R_reok rfl hy0 (fun k_ e_ => HO_0.out.1 k_ e_)); have n1_ := Aside0.mk (Kept.then_ (S := (fun k_ => P0_ k_)) (by repeat (first | (with_reducible first | exact HK.out | apply Kept.alloc | apply Kept.drewN | apply Kept.drew) | exact HK.out)) hkp (fun k_ hs_ => (fun e_ => (HO_0.out.1 k_ e_.symm)) hs_)); have n2_ := Aside0.mk (hb); clear HO_0; clear HK; clear HB; have HO_0 := n0_; have HK := n1_; have HB := n2_; clear n0_ n1_ n2_; (try clear hb); (try clear hkp); (try clear hy0))))
   (try simp only [← hl0_18, ← hl0_27])
   go_roundg kj33
   case measure => have := HK1.out; have := HJ12.out; have := HJ18.out; have := HJ24.out; have := HJ27.out; have := HJ33.out; omega
   case rel => exact ⟨(t166), (wrap64 (t163 + 1)), (x2_1), (x3_12), (decide ((wrap64 (t163 - x1_1)) ≥ (wrap64 (Int.tdiv (wrap64 (x2_1 - x1_1)) 8)))), (t164), (by first | rfl | (simp; done) | (simp [*]; done)), (by first | rfl | (simp; done) | (simp [*]; done)), (by first | rfl | (simp; done) | (simp [*]; done)), (by first | rfl | (simp; done) | (simp [*]; done)), (by first | rfl | (simp; done) | (simp [*]; done)), H', ⟨by have := HK1.out; have := HJ12.out; have := HJ18.out; have := HJ24.out; have := HJ27.out; have := HJ33.out; omega⟩, ⟨by (try simp only [hl0_18]); (try simp only [hl0_27]); (with_reducible repeat (first | apply Kd.R_alloc | apply Kd.R_drewN | apply Kd.R_drew)); exact HO_0.out⟩, ⟨by repeat (first | (with_reducible first | exact HK.out | apply Kept.alloc | apply Kept.drewN | apply Kept.drew) | exact HK.out)⟩, ⟨by repeat (first | (with_reducible first | exact HB.out | apply below_alloc | apply pw_below_drewN | apply below_drew1) | exact HB.out)⟩⟩
 rw [if_neg c46] at H
 have c46b0 : decide ((wrap64 (t163 - x1_1)) < (wrap64 (x2_1 - t163))) = false := decide_eq_false c46
 clear c46
 replace H := Option.bind_eq_some_iff.mp H
 obtain ⟨t167, A500, H⟩ := H
 replace H : (slices_pdqsortOrdered_uint32.l0 kj33 t167 x1_1 t163 x3_12 (decide ((wrap64 (x2_1 - t163)) ≥ (wrap64 (Int.tdiv (wrap64 (x2_1 - x1_1)) 8)))) t164) = some r := H
 have A50 := Aside0.mk A500
 clear A500
 have H' := Aside0.mk H
 clear H
 go_wp2_with (first | (go_at_call 91; (with_reducible refine (slices_partitionOrdered_uint32.calls kj33 (fun k_ => some k_ = (.slice Ao20 x0_27.length co20 : Value).ownBlock) (.slice Ao20 x0_27.length co20) x0_27 x1_1 x2_1 x11_18 t163 t164 t165 w0 _ ?side1 ?side2 A45.out).mono ?_); (case side1 => repeat (first | (with_reducible first | exact HB.out | apply below_alloc | apply pw_below_drewN | apply below_drew1) | exact HB.out)); (case side2 => exact Kd.R_tight rfl HO_0.out); rintro e w51 ⟨rfl, hy0, hb, hkp⟩; have n0_ := Aside0.mk (Kd.R_reok rfl hy0 (fun k_ e_ => HO_0.out.1 k_ e_)); have n1_ := Aside0.mk (Kept.then_ (S := (fun k_ => P0_ k_)) (by repeat (first | (with_reducible first | exact HK.out | apply Kept.alloc | apply Kept.drewN | apply Kept.drew) | exact HK.out)) hkp (fun k_ hs_ => (fun e_ => (HO_0.out.1 k_ e_.symm)) hs_)); have n2_ := Aside0.mk (hb); clear HO_0; clear HK; clear HB; have HO_0 := n0_; have HK := n1_; have HB := n2_; clear n0_ n1_ n2_; (try clear hb); (try clear hkp); (try clear hy0)) | (go_at_call 78; (with_reducible refine (ih kj33 (by have := HK1.out; have := HJ12.out; have := HJ18.out; have := HJ24.out; have := HJ27.out; have := HJ33.out; omega) (fun k_ => some k_ = (.slice Ao20 x0_27.length co20 : Value).ownBlock) (.slice Ao20 x0_27.length co20) t165 (wrap64 (t163 + 1)) x2_1 x3_12 t167 w0 _ ?side1 ?side2 A50.out).mono ?_); (case side1 => repeat (first | (with_reducible first | exact HB.out | apply below_alloc | apply pw_below_drewN | apply below_drew1) | exact HB.out)); (case side2 => exact Kd.R_tight rfl HO_0.out); rintro e w52 ⟨rfl, hy0, hb, hkp⟩; have n0_ := Aside0.mk (Kd.R_reok rfl hy0 (fun k_ e_ => HO_0.out.1 k_ e_)); have n1_ := Aside0.mk (Kept.then_ (S := (fun k_ => P0_ k_)) (by repeat (first | (with_reducible first | exact HK.out | apply Kept.alloc | apply Kept.drewN | apply Kept.drew) | exact HK.out)) hkp (fun k_ hs_ => (fun e_ => (HO_0.out.1 k_ e_.symm)) hs_)); have n2_ := Aside0.mk (hb); clear HO_0; clear HK; clear HB; have HO_0 := n0_; have HK := n1_; have HB := n2_; clear n0_ n1_ n2_; (try clear hb); (try clear hkp); (try clear hy0)))
 repeat (go_quiet (first | (go_at_call 91; (with_reducible refine (slices_partitionOrdered_uint32.calls kj33 (fun k_ => some k_ = (.slice Ao20 x0_27.length co20 : Value).ownBlock) (.slice Ao20 x0_27.length co20) x0_27 x1_1 x2_1 x11_18 t163 t164 t165 w0 _ ?side1 ?side2 A45.out).mono ?_); (case side1 => repeat (first | (with_reducible first | exact HB.out | apply below_alloc | apply pw_below_drewN | apply below_drew1) | exact HB.out)); (case side2 => exact Kd.R_tight rfl HO_0.out); rintro e w51 ⟨rfl, hy0, hb, hkp⟩; have n0_ := Aside0.mk (Kd.R_reok rfl hy0 (fun k_ e_ => HO_0.out.1 k_ e_)); have n1_ := Aside0.mk (Kept.then_ (S := (fun k_ => P0_ k_)) (by repeat (first | (with_reducible first | exact HK.out | apply Kept.alloc | apply Kept.drewN | apply Kept.drew) | exact HK.out)) hkp (fun k_ hs_ => (fun e_ => (HO_0.out.1 k_ e_.symm)) hs_)); have n2_ := Aside0.mk (hb); clear HO_0; clear HK; clear HB; have HO_0 := n0_; have HK := n1_; have HB := n2_; clear n0_ n1_ n2_; (try clear hb); (try clear hkp); (try clear hy0)) | (go_at_call 78; (with_reducible refine (ih kj33 (by have := HK1.out; have := HJ12.out; have := HJ18.out; have := HJ24.out; have := HJ27.out; have := HJ33.out; omega) (fun k_ => some k_ = (.slice Ao20 x0_27.length co20 : Value).ownBlock) (.slice Ao20 x0_27.length co20) t165 (wrap64 (t163 + 1)) x2_1 x3_12 t167 w0 _ ?side1 ?side2 A50.out).mono ?_); (case side1 => repeat (first | (with_reducible first | exact HB.out | apply below_alloc | apply pw_below_drewN | apply below_drew1) | exact HB.out)); (case side2 => exact Kd.R_tight rfl HO_0.out); rintro e w52 ⟨rfl, hy0, hb, hkp⟩; have n0_ := Aside0.mk (Kd.R_reok rfl hy0 (fun k_ e_ => HO_0.out.1 k_ e_)); have n1_ := Aside0.mk (Kept.then_ (S := (fun k_ => P0_ k_)) (by repeat (first | (with_reducible first | exact HK.out | apply Kept.alloc | apply Kept.drewN | apply Kept.drew) | exact HK.out)) hkp (fun k_ hs_ => (fun e_ => (HO_0.out.1 k_ e_.symm)) hs_)); have n2_ := Aside0.mk (hb); clear HO_0; clear HK; clear HB; have HO_0 := n0_; have HK := n1_; have HB := n2_; clear n0_ n1_ n2_; (try clear hb); (try clear hkp); (try clear hy0))); try go_wp2_with (first | (go_at_call 91; (with_reducible refine (slices_partitionOrdered_uint32.calls kj33 (fun k_ => some k_ = (.slice Ao20 x0_27.length co20 : Value).ownBlock) (.slice Ao20 x0_27.length co20) x0_27 x1_1 x2_1 x11_18 t163 t164 t165 w0 _ ?side1 ?side2 A45.out).mono ?_); (case side1 => repeat (first | (with_reducible first | exact HB.out | apply below_alloc | apply pw_below_drewN | apply below_drew1) | exact HB.out)); (case side2 => exact Kd.R_tight rfl HO_0.out); rintro e w51 ⟨rfl, hy0, hb, hkp⟩; have n0_ := Aside0.mk (Kd.R_reok rfl hy0 (fun k_ e_ => HO_0.out.1 k_ e_)); have n1_ := Aside0.mk (Kept.then_ (S := (fun k_ => P0_ k_)) (by repeat (first | (with_reducible first | exact HK.out | apply Kept.alloc | apply Kept.drewN | apply Kept.drew) | exact HK.out)) hkp (fun k_ hs_ => (fun e_ => (HO_0.out.1 k_ e_.symm)) hs_)); have n2_ := Aside0.mk (hb); clear HO_0; clear HK; clear HB; have HO_0 := n0_; have HK := n1_; have HB := n2_; clear n0_ n1_ n2_; (try clear hb); (try clear hkp); (try clear hy0)) | (go_at_call 78; (with_reducible refine (ih kj33 (by have := HK1.out; have := HJ12.out; have := HJ18.out; have := HJ24.out; have := HJ27.out; have := HJ33.out; omega) (fun k_ => some k_ = (.slice Ao20 x0_27.length co20 : Value).ownBlock) (.slice Ao20 x0_27.length co20) t165 (wrap64 (t163 + 1)) x2_1 x3_12 t167 w0 _ ?side1 ?side2 A50.out).mono ?_); (case side1 => repeat (first | (with_reducible first | exact HB.out | apply below_alloc | apply pw_below_drewN | apply below_drew1) | exact HB.out)); (case side2 => exact Kd.R_tight rfl HO_0.out); rintro e w52 ⟨rfl, hy0, hb, hkp⟩; have n0_ := Aside0.mk (Kd.R_reok rfl hy0 (fun k_ e_ => HO_0.out.1 k_ e_)); have n1_ := Aside0.mk (Kept.then_ (S := (fun k_ => P0_ k_)) (by repeat (first | (with_reducible first | exact HK.out | apply Kept.alloc | apply Kept.drewN | apply Kept.drew) | exact HK.out)) hkp (fun k_ hs_ => (fun e_ => (HO_0.out.1 k_ e_.symm)) hs_)); have n2_ := Aside0.mk (hb); clear HO_0; clear HK; clear HB; have HO_0 := n0_; have HK := n1_; have HB := n2_; clear n0_ n1_ n2_; (try clear hb); (try clear hkp); (try clear hy0))))
 (try simp only [← hl0_18, ← hl0_27])
 go_roundg kj33
 case measure => have := HK1.out; have := HJ12.out; have := HJ18.out; have := HJ24.out; have := HJ27.out; have := HJ33.out; omega
 case rel => exact ⟨(t167), (x1_1), (t163), (x3_12), (decide ((wrap64 (x2_1 - t163)) ≥ (wrap64 (Int.tdiv (wrap64 (x2_1 - x1_1)) 8)))), (t164), (by first | rfl | (simp; done) | (simp [*]; done)), (by first | rfl | (simp; done) | (simp [*]; done)), (by first | rfl | (simp; done) | (simp [*]; done)), (by first | rfl | (simp; done) | (simp [*]; done)), (by first | rfl | (simp; done) | (simp [*]; done)), H', ⟨by have := HK1.out; have := HJ12.out; have := HJ18.out; have := HJ24.out; have := HJ27.out; have := HJ33.out; omega⟩, ⟨by (try simp only [hl0_18]); (try simp only [hl0_27]); (with_reducible repeat (first | apply Kd.R_alloc | apply Kd.R_drewN | apply Kd.R_drew)); exact HO_0.out⟩, ⟨by repeat (first | (with_reducible first | exact HK.out | apply Kept.alloc | apply Kept.drewN | apply Kept.drew) | exact HK.out)⟩, ⟨by repeat (first | (with_reducible first | exact HB.out | apply below_alloc | apply pw_below_drewN | apply below_drew1) | exact HB.out)⟩⟩
end Go.Proofs.YtkgnjfoclhkgkaaDoor.RSORT
