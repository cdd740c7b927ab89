-- WRITTEN BY A PROGRAM OF THIS SESSION over the walks that the kit prints; contracts of functions that the print does not take are this session's own
import Derived.Test.YtkgnjfoclhkgkaaDoorRMTx0
namespace Go.Proofs.YtkgnjfoclhkgkaaDoor.RMT
open Go.RowKit Go.Proofs.YtkgnjfoclhkgkaaDoor.Given Go.Proofs.YtkgnjfoclhkgkaaDoor.RLN Go.Proofs.YtkgnjfoclhkgkaaDoor.ROC Go.Proofs.YtkgnjfoclhkgkaaDoorW.PrintWords Go.Proofs.YtkgnjfoclhkgkaaDoorW.PrintLast Go.Proofs.YtkgnjfoclhkgkaaDoorW.PrintMore
attribute [local go_sem] max2_int min2_int max_two min_two max_three min_three max_four min_four   -- for this text's walks alone
set_option linter.unusedVariables false
set_option linter.unusedSimpArgs false
def impl_mayTurn.j0 : Nat → Int → Int → Bool → Option (Bool)
  | 0, _, _, _ => none
  | k + 1, x0, x1, x12 => if x12 = true then (some false) else ((bits_OnesCount32.f x1).bind fun t101 => (if x0 = 0 then (some (t101 == 1)) else (if x0 = 1 then (some (decide (t101 ≤ 2))) else (if x0 = 2 then (some (t101 == 2)) else (if x0 = 3 then (some (decide (t101 ≤ 3))) else (if x0 = 4 then ((bits_Len32.f x1).bind fun t102 => ((bits_TrailingZeros32.f x1).bind fun t103 => (some (t101 == (wrap64 (t102 - t103)))))) else (some (t101 == 3))))))))
def impl_mayTurn.f (k : Nat) (a0 : Int) (a1 : Int) : Option (Bool) := if a1 = 0 then (impl_mayTurn.j0 k a0 a1 true) else (impl_mayTurn.j0 k a0 a1 ((a1 / 16777216) != 0))
theorem impl_mayTurn.mono_l : ∀ k, (∀ y0 y1 y2, LeO (impl_mayTurn.j0 k y0 y1 y2) (impl_mayTurn.j0 (k + 1) y0 y1 y2))
  | 0 => fun _ _ _ r h => by simp [impl_mayTurn.j0] at h
  | k + 1 => by
    have ih0 := impl_mayTurn.mono_l k
    · intro y0 y1 y2
      unfold impl_mayTurn.j0
      repeat' first
      | (with_reducible exact ih0 _ _ _)
      | (with_reducible exact LeO.refl _)
      | (with_reducible exact LeO.none _)
      | (with_reducible refine LeO.ite ?_ ?_)
      | (with_reducible refine LeO.bind ?_ (fun _ => ?_))
      | exact ih0 _ _ _
      | exact LeO.none _
      | refine LeO.ite ?_ ?_
      | refine LeO.bind ?_ (fun _ => ?_)
theorem impl_mayTurn.mono : ∀ a0 a1 k, LeO (impl_mayTurn.f k a0 a1) (impl_mayTurn.f (k + 1) a0 a1) := by
 intro a0 a1 k
 have ih0 := impl_mayTurn.mono_l k
 unfold impl_mayTurn.f
 repeat' first
     | (with_reducible exact ih0 _ _ _)
     | (with_reducible exact LeO.refl _)
     | (with_reducible exact LeO.none _)
     | (with_reducible refine LeO.ite ?_ ?_)
     | (with_reducible refine LeO.bind ?_ (fun _ => ?_))
     | exact ih0 _ _ _
     | exact LeO.none _
     | refine LeO.ite ?_ ?_
     | refine LeO.bind ?_ (fun _ => ?_)
set_option maxHeartbeats 8000000 in
set_option maxRecDepth 100000 in
theorem impl_mayTurn.calls (k : Nat) (a0 : Int) (a1 : Int) (r : Bool) (w : World) (hT : RT w) (h : impl_mayTurn.f k a0 a1 = some r) :
    Calls Tryd.prog 47 #[.int .i64 a0, .int .u32 a1] w fun e w' => e = .returned (.bool r) ∧ Drawn0 w w' := by
 have HTT := Lib.hid hT
 clear hT
 have H : (if a1 = 0 then (impl_mayTurn.j0 k a0 a1 true) else (impl_mayTurn.j0 k a0 a1 ((a1 / 16777216) != 0))) = some r := h
 clear h
 have HC3 := Aside0.mk H
 clear H
 go_enter Tryd.func47, Tryd.ntmps47
 go_upto_region 1 with (fail)
 go_cut [12] (fun v12 wc => ∃ (kq : Nat) (x12_2 : Bool), v12 = .bool x12_2 ∧ Aside0 (impl_mayTurn.j0 kq a0 a1 x12_2 = some r) ∧ Aside0 (kq ≤ k) ∧ Drawn0 w wc)
 case first =>
  have H := HC3.out
  clear HC3
  by_cases c4 : a1 = 0
  · rw [if_pos c4] at H
    have c4b0 : (a1 == 0) = true := beq_iff_eq.mpr c4
    have c4b1 : (a1 != 0) = false := bne_eq_false_iff_eq.mpr c4
    clear c4
    (first | rw [c4b0] | (simp only [i64_w, i32_w]; rw [c4b0]) | skip)
    have H' := Aside0.mk H
    clear H
    go_wp2
    go_meet
    case rel => exact ⟨_, (true), (by first | rfl | (simp; done) | (simp [*]; done)), H', ⟨by first | omega | exact Nat.le_refl _⟩, by repeat (first | exact Drawn0.refl _ | apply Drawn0.step)⟩
  rw [if_neg c4] at H
  have c4b0 : (a1 == 0) = false := beq_eq_false_iff_ne.mpr c4
  have c4b1 : (a1 != 0) = true := bne_iff_ne.mpr c4
  (first | rw [c4b0] | (simp only [i64_w, i32_w]; rw [c4b0]) | skip)
  have H' := Aside0.mk H
  clear H
  go_wp2
  go_meet
  case rel => exact ⟨_, (((a1 / 16777216) != 0)), (by first | rfl | (simp; done) | (simp [*]; done)), H', ⟨by first | omega | exact Nat.le_refl _⟩, by repeat (first | exact Drawn0.refl _ | apply Drawn0.step)⟩
 case rest =>
 clear HC3
 try clear p2
 try clear c4
 try clear c4b0
 try clear c4b1
 obtain ⟨kq, x12_2, rfl, HA, HJ2, ⟨mc2, rfl⟩⟩ := hcut
 cases kq with
 | zero => exact absurd HA.out (by simp [impl_mayTurn.j0])
 | succ kj2 =>
 have H := HA.out
 clear HA
 simp only [impl_mayTurn.j0] at H
 by_cases c5 : x12_2 = true
 · subst c5
   have H1 : (some false) = some r := by rw [if_pos rfl] at H; exact H
   clear H
   have H := H1
   clear H1
   obtain rfl := Option.some.inj H
   go_wp2
   go_ret
   exact ⟨by first | rfl | (simp; done) | (simp [*]; done), by repeat (first | exact Drawn0.refl _ | apply Drawn0.step)⟩
 replace c5 := Bool.eq_false_iff.mpr c5
 subst c5
 have H1 : ((bits_OnesCount32.f a1).bind fun t101 => (if a0 = 0 then (some (t101 == 1)) else (if a0 = 1 then (some (decide (t101 ≤ 2))) else (if a0 = 2 then (some (t101 == 2)) else (if a0 = 3 then (some (decide (t101 ≤ 3))) else (if a0 = 4 then ((bits_Len32.f a1).bind fun t102 => ((bits_TrailingZeros32.f a1).bind fun t103 => (some (t101 == (wrap64 (t102 - t103)))))) else (some (t101 == 3)))))))) = some r := by rw [if_neg (show ¬ (false = true) by decide)] at H; exact H
 clear H
 have H := H1
 clear H1
 replace H := Option.bind_eq_some_iff.mp H
 obtain ⟨t101, A60, H⟩ := H
 replace H : (if a0 = 0 then (some (t101 == 1)) else (if a0 = 1 then (some (decide (t101 ≤ 2))) else (if a0 = 2 then (some (t101 == 2)) else (if a0 = 3 then (some (decide (t101 ≤ 3))) else (if a0 = 4 then ((bits_Len32.f a1).bind fun t102 => ((bits_TrailingZeros32.f a1).bind fun t103 => (some (t101 == (wrap64 (t102 - t103)))))) else (some (t101 == 3))))))) = some r := H
 have A6 := Aside0.mk A60
 clear A60
 by_cases c7 : a0 = 0
 · rw [if_pos c7] at H
   have c7b0 : (a0 == 0) = true := beq_iff_eq.mpr c7
   have c7b1 : (a0 != 0) = false := bne_eq_false_iff_eq.mpr c7
   clear c7
   obtain rfl := Option.some.inj H
   go_wp2_with (first | ((with_reducible refine gate_callee (f := 67) rfl ?_); refine goesL_ (some 14) rfl rfl Tryd.func67 (by kernel_rfl) rfl #[.int .u32 a1] rfl (by (try simp only [List.map_toArray, List.map_cons, List.map_nil]); first | done | rfl | (simp only [List.length_drop, List.length_take]; rfl)) ?_; (with_reducible refine (bits_OnesCount32.calls a1 t101 _ A6.out).mono ?_); rintro e w' ⟨rfl, ⟨nd, rfl⟩⟩; refine ⟨_, rfl, ?_⟩))
   go_ret
   exact ⟨by first | rfl | (simp; done) | (simp [*]; done), by repeat (first | exact Drawn0.refl _ | apply Drawn0.step)⟩
 rw [if_neg c7] at H
 have c7b0 : (a0 == 0) = false := beq_eq_false_iff_ne.mpr c7
 have c7b1 : (a0 != 0) = true := bne_iff_ne.mpr c7
 by_cases c8 : a0 = 1
 · rw [if_pos c8] at H
   have c8b0 : (a0 == 1) = true := beq_iff_eq.mpr c8
   have c8b1 : (a0 != 1) = false := bne_eq_false_iff_eq.mpr c8
   clear c8
   obtain rfl := Option.some.inj H
   go_wp2_with (first | ((with_reducible refine gate_callee (f := 67) rfl ?_); refine goesL_ (some 14) rfl rfl Tryd.func67 (by kernel_rfl) rfl #[.int .u32 a1] rfl (by (try simp only [List.map_toArray, List.map_cons, List.map_nil]); first | done | rfl | (simp only [List.length_drop, List.length_take]; rfl)) ?_; (with_reducible refine (bits_OnesCount32.calls a1 t101 _ A6.out).mono ?_); rintro e w' ⟨rfl, ⟨nd, rfl⟩⟩; refine ⟨_, rfl, ?_⟩))
   go_ret
   exact ⟨by first | rfl | (simp; done) | (simp [*]; done), by repeat (first | exact Drawn0.refl _ | apply Drawn0.step)⟩
 rw [if_neg c8] at H
 have c8b0 : (a0 == 1) = false := beq_eq_false_iff_ne.mpr c8
 have c8b1 : (a0 != 1) = true := bne_iff_ne.mpr c8
 by_cases c9 : a0 = 2
 · rw [if_pos c9] at H
   have c9b0 : (a0 == 2) = true := beq_iff_eq.mpr c9
   have c9b1 : (a0 != 2) = false := bne_eq_false_iff_eq.mpr c9
   clear c9
   obtain rfl := Option.some.inj H
   go_wp2_with (first | ((with_reducible refine gate_callee (f := 67) rfl ?_); refine goesL_ (some 14) rfl rfl Tryd.func67 (by kernel_rfl) rfl #[.int .u32 a1] rfl (by (try simp only [List.map_toArray, List.map_cons, List.map_nil]); first | done | rfl | (simp only [List.length_drop, List.length_take]; rfl)) ?_; (with_reducible refine (bits_OnesCount32.calls a1 t101 _ A6.out).mono ?_); rintro e w' ⟨rfl, ⟨nd, rfl⟩⟩; refine ⟨_, rfl, ?_⟩))
   go_ret
   exact ⟨by first | rfl | (simp; done) | (simp [*]; done), by repeat (first | exact Drawn0.refl _ | apply Drawn0.step)⟩
 rw [if_neg c9] at H
 have c9b0 : (a0 == 2) = false := beq_eq_false_iff_ne.mpr c9
 have c9b1 : (a0 != 2) = true := bne_iff_ne.mpr c9
 by_cases c10 : a0 = 3
 · rw [if_pos c10] at H
   have c10b0 : (a0 == 3) = true := beq_iff_eq.mpr c10
   have c10b1 : (a0 != 3) = false := bne_eq_false_iff_eq.mpr c10
   clear c10
   obtain rfl := Option.some.inj H
   go_wp2_with (first | ((with_reducible refine gate_callee (f := 67) rfl ?_); refine goesL_ (some 14) rfl rfl Tryd.func67 (by kernel_rfl) rfl #[.int .u32 a1] rfl (by (try simp only [List.map_toArray, List.map_cons, List.map_nil]); first | done | rfl | (simp only [List.length_drop, List.length_take]; rfl)) ?_; (with_reducible refine (bits_OnesCount32.calls a1 t101 _ A6.out).mono ?_); rintro e w' ⟨rfl, ⟨nd, rfl⟩⟩; refine ⟨_, rfl, ?_⟩))
   go_ret
   exact ⟨by first | rfl | (simp; done) | (simp [*]; done), by repeat (first | exact Drawn0.refl _ | apply Drawn0.step)⟩
 rw [if_neg c10] at H
 have c10b0 : (a0 == 3) = false := beq_eq_false_iff_ne.mpr c10
 have c10b1 : (a0 != 3) = true := bne_iff_ne.mpr c10
 by_cases c11 : a0 = 4
 rotate_left
 · rw [if_neg c11] at H
   have c11b0 : (a0 == 4) = false := beq_eq_false_iff_ne.mpr c11
   have c11b1 : (a0 != 4) = true := bne_iff_ne.mpr c11
   obtain rfl := Option.some.inj H
   go_wp2_with (first | ((with_reducible refine gate_callee (f := 67) rfl ?_); refine goesL_ (some 14) rfl rfl Tryd.func67 (by kernel_rfl) rfl #[.int .u32 a1] rfl (by (try simp only [List.map_toArray, List.map_cons, List.map_nil]); first | done | rfl | (simp only [List.length_drop, List.length_take]; rfl)) ?_; (with_reducible refine (bits_OnesCount32.calls a1 t101 _ A6.out).mono ?_); rintro e w' ⟨rfl, ⟨nd, rfl⟩⟩; refine ⟨_, rfl, ?_⟩))
   go_ret
   exact ⟨by first | rfl | (simp; done) | (simp [*]; done), by repeat (first | exact Drawn0.refl _ | apply Drawn0.step)⟩
 rw [if_pos c11] at H
 have c11b0 : (a0 == 4) = true := beq_iff_eq.mpr c11
 have c11b1 : (a0 != 4) = false := bne_eq_false_iff_eq.mpr c11
 clear c11
 replace H := Option.bind_eq_some_iff.mp H
 obtain ⟨t102, A120, H⟩ := H
 replace H : ((bits_TrailingZeros32.f a1).bind fun t103 => (some (t101 == (wrap64 (t102 - t103))))) = some r := H
 have A12 := Aside0.mk A120
 clear A120
 replace H := Option.bind_eq_some_iff.mp H
 obtain ⟨t103, A130, H⟩ := H
 replace H : (some (t101 == (wrap64 (t102 - t103)))) = some r := H
 have A13 := Aside0.mk A130
 clear A130
 obtain rfl := Option.some.inj H
 go_wp2_with (first | ((with_reducible refine gate_callee (f := 67) rfl ?_); refine goesL_ (some 14) rfl rfl Tryd.func67 (by kernel_rfl) rfl #[.int .u32 a1] rfl (by (try simp only [List.map_toArray, List.map_cons, List.map_nil]); first | done | rfl | (simp only [List.length_drop, List.length_take]; rfl)) ?_; (with_reducible refine (bits_OnesCount32.calls a1 t101 _ A6.out).mono ?_); rintro e w' ⟨rfl, ⟨nd, rfl⟩⟩; refine ⟨_, rfl, ?_⟩) | ((with_reducible refine gate_callee (f := 68) rfl ?_); refine goesL_ (some 36) rfl rfl Tryd.func68 (by kernel_rfl) rfl #[.int .u32 a1] rfl (by (try simp only [List.map_toArray, List.map_cons, List.map_nil]); first | done | rfl | (simp only [List.length_drop, List.length_take]; rfl)) ?_; (with_reducible refine (bits_Len32.calls a1 t102 _ A12.out).mono ?_); rintro e w' ⟨rfl, ⟨nd, rfl⟩⟩; refine ⟨_, rfl, ?_⟩) | ((with_reducible refine gate_callee (f := 56) rfl ?_); refine goesL_ (some 38) rfl rfl Tryd.func56 (by kernel_rfl) rfl #[.int .u32 a1] rfl (by (try simp only [List.map_toArray, List.map_cons, List.map_nil]); first | done | rfl | (simp only [List.length_drop, List.length_take]; rfl)) ?_; (with_reducible refine (bits_TrailingZeros32.calls a1 t103 _ (by first | ((repeat (first | exact HTT.out | apply RT.drewN | apply RT.drew)); done) | exact (HTT.out.on (by repeat (first | (with_reducible first | exact HB.out | apply below_alloc | apply pw_below_drewN | apply below_drew1) | exact HB.out)))) A13.out).mono ?_); rintro e w' ⟨rfl, ⟨nd, rfl⟩⟩; refine ⟨_, rfl, ?_⟩))
 go_ret
 exact ⟨by first | rfl | (simp; done) | (simp [*]; done), by repeat (first | exact Drawn0.refl _ | apply Drawn0.step)⟩
end Go.Proofs.YtkgnjfoclhkgkaaDoor.RMT
