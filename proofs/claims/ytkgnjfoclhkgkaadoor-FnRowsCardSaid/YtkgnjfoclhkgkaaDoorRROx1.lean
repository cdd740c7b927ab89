-- WRITTEN BY A PROGRAM OF THIS SESSION over the walks that the kit prints; contracts of functions that the print does not take are this session's own
import Derived.Test.YtkgnjfoclhkgkaaDoorRROx0
namespace Go.Proofs.YtkgnjfoclhkgkaaDoor.RRO
open Go.RowKit Go.Proofs.YtkgnjfoclhkgkaaDoor.Given Go.Proofs.YtkgnjfoclhkgkaaDoor.RLN Go.Proofs.YtkgnjfoclhkgkaaDoor.ROC Go.Proofs.YtkgnjfoclhkgkaaDoorW.PrintWords Go.Proofs.YtkgnjfoclhkgkaaDoorW.PrintLast Go.Proofs.YtkgnjfoclhkgkaaDoorW.PrintMore
attribute [local go_sem] max2_int min2_int max_two min_two max_three min_three max_four min_four   -- for this text's walks alone
set_option linter.unusedVariables false
set_option linter.unusedSimpArgs false
def impl_rowOf.l0 : Nat → List Int → Int → Int → Option (Int)
  | 0, _, _, _ => none
  | k + 1, x0, x1, x5 => if x1 = 0 then (some x5) else ((bits_TrailingZeros32.f x1).bind fun t101 => (if 0 ≤ t101 then (if t101 < (x0.length : Int) then (impl_rowOf.l0 k x0 (Go.bits .and .u32 x1 ((x1 - 1) % 4294967296)) (Go.bits .xor .u16 x5 (rd x0 t101))) else (none)) else (none)))
def impl_rowOf.f (k : Nat) (l0 : List Int) (a1 : Int) : Option (Int) := impl_rowOf.l0 k l0 a1 0
set_option maxHeartbeats 8000000 in
set_option maxRecDepth 100000 in
theorem impl_rowOf.calls (k : Nat) (A0 : Option Addr) (c0 : Nat) (l0 : List Int) (a1 : Int) (r : Int) (w : World) (hr0 : Kd.C (Kd.int .u16) w A0 l0.length l0) (hc0 : l0.length ≤ c0) (hT : RT w) (h : impl_rowOf.f k l0 a1 = some r) :
    Calls Tryd.prog 35 #[.slice A0 l0.length c0, .int .u32 a1] w fun e w' => e = .returned (.int .u16 r) ∧ Drawn0 w w' := by
 have HTT := Lib.hid hT
 clear hT
 have HR0 := Aside0.mk hr0
 have HC0 := Aside0.mk hc0
 clear hr0 hc0
 have H : (impl_rowOf.l0 k l0 a1 0) = some r := h
 clear h
 have H' := Aside0.mk H
 clear H
 go_enter Tryd.func35, Tryd.ntmps35
 go_wp2
 go_loopg [1, 5] k (fun kq v1 v5 w' => ∃ (x1_1 : Int) (x5_1 : Int), v1 = .int .u32 x1_1 ∧ v5 = .int .u16 x5_1 ∧ Aside0 (impl_rowOf.l0 kq l0 x1_1 x5_1 = some r) ∧ Aside0 (kq ≤ k) ∧ Drawn0 w w')
 case atStart => exact ⟨(a1), (0), (by first | rfl | (simp; done) | (simp [*]; done)), (by first | rfl | (simp; done) | (simp [*]; done)), H', ⟨Nat.le_refl _⟩, by repeat (first | exact Drawn0.refl _ | apply Drawn0.step)⟩
 case round =>
 clear H'
 try clear p2
 obtain ⟨x1_1, x5_1, rfl, rfl, HA, HK1, ⟨m1, rfl⟩⟩ := hrel
 cases gk with
 | zero => exact absurd HA.out (by simp [impl_rowOf.l0])
 | succ k1 =>
 have H := HA.out
 clear HA
 simp only [impl_rowOf.l0] at H
 by_cases c3 : x1_1 = 0
 · rw [if_pos c3] at H
   have c3b0 : (x1_1 == 0) = true := beq_iff_eq.mpr c3
   have c3b1 : (x1_1 != 0) = false := bne_eq_false_iff_eq.mpr c3
   clear c3
   obtain rfl := Option.some.inj H
   go_wp2
   go_ret
   exact ⟨by first | rfl | (simp; done) | (simp [*]; done), by repeat (first | exact Drawn0.refl _ | apply Drawn0.step)⟩
 rw [if_neg c3] at H
 have c3b0 : (x1_1 == 0) = false := beq_eq_false_iff_ne.mpr c3
 have c3b1 : (x1_1 != 0) = true := bne_iff_ne.mpr c3
 replace H := Option.bind_eq_some_iff.mp H
 obtain ⟨t101, A40, H⟩ := H
 replace H : (if 0 ≤ t101 then (if t101 < (l0.length : Int) then (impl_rowOf.l0 k1 l0 (Go.bits .and .u32 x1_1 ((x1_1 - 1) % 4294967296)) (Go.bits .xor .u16 x5_1 (rd l0 t101))) else (none)) else (none)) = some r := H
 have A4 := Aside0.mk A40
 clear A40
 by_cases c5 : 0 ≤ t101
 rotate_left
 · rw [if_neg c5] at H
   exact absurd H (by simp)
 rw [if_pos c5] at H
 have c5b0 : decide (0 ≤ t101) = true := decide_eq_true c5
 clear c5
 by_cases c6 : t101 < (l0.length : Int)
 rotate_left
 · rw [if_neg c6] at H
   exact absurd H (by simp)
 rw [if_pos c6] at H
 have c6b0 : decide (t101 < (l0.length : Int)) = true := decide_eq_true c6
 clear c6
 have H' := Aside0.mk H
 clear H
 go_wp2_with (first | ((with_reducible refine gate_callee (f := 56) rfl ?_); refine goesL_ (some 15) rfl rfl Tryd.func56 (by kernel_rfl) rfl #[.int .u32 x1_1] rfl (by (try simp only [List.map_toArray, List.map_cons, List.map_nil]); first | done | rfl | (simp only [List.length_drop, List.length_take]; rfl)) ?_; (with_reducible refine (bits_TrailingZeros32.calls x1_1 t101 _ (by first | ((repeat (first | exact HTT.out | apply RT.drewN | apply RT.drew)); done) | exact (HTT.out.on (by repeat (first | (with_reducible first | exact HB.out | apply below_alloc | apply pw_below_drewN | apply below_drew1) | exact HB.out)))) A4.out).mono ?_); rintro e w' ⟨rfl, ⟨nd, rfl⟩⟩; refine ⟨_, rfl, ?_⟩; have p102 : 0 ≤ (t101 : Int) := of_decide_eq_true (by first | (with_reducible assumption) | assumption); have q102 : t101 < (l0.length : Int) := of_decide_eq_true (by first | (with_reducible assumption) | assumption); obtain ⟨ad102, e102, hx102_0⟩ := Kd.at_int HR0.out t101 p102 q102; cases e102; replace p102 := eq_true p102; replace q102 := eq_true q102))
 go_roundg k1
 case measure => have := HK1.out; omega
 case rel => exact ⟨(Go.bits .and .u32 x1_1 ((x1_1 - 1) % 4294967296)), (Go.bits .xor .u16 x5_1 (rd l0 t101)), (by first | rfl | (simp; done) | (simp [*]; done)), (by first | rfl | (simp; done) | (simp [*]; done)), H', ⟨by have := HK1.out; omega⟩, by repeat (first | exact Drawn0.refl _ | apply Drawn0.step)⟩
end Go.Proofs.YtkgnjfoclhkgkaaDoor.RRO
