-- WRITTEN BY A PROGRAM OF THIS SESSION over the walks that the kit prints; contracts of functions that the print does not take are this session's own
import Derived.Test.YtenmcdnjbplnlaaRFnExactRootOfx0
namespace Go.Proofs.Ytenmcdnjbplnlaa.RFnExactRootOf
open Go.RowKit Go.Proofs.Ytenmcdnjbplnlaa.Given Go.Proofs.YtenmcdnjbplnlaaW.PrintWords Go.Proofs.YtenmcdnjbplnlaaW.PrintLast Go.Proofs.YtenmcdnjbplnlaaW.PrintMore
attribute [local go_sem] max2_int min2_int max_two min_two max_three min_three max_four min_four   -- for this text's walks alone
set_option linter.unusedVariables false
set_option linter.unusedSimpArgs false

/-! ### spec_l01Power: function 46 -/
def spec_l01Power.l0 : Nat → Int → Int → Int → Option (Int)
  | 0, _, _, _ => none
  | k + 1, x0, x1, x5 => if x1 > 0 then (if (Int.tmod x1 2) = 1 then ((spec_l01Times.f x5 x0).bind fun t101 => ((spec_l01Times.f x0 x0).bind fun t102 => (spec_l01Power.l0 k t102 (wrap64 (Int.tdiv x1 2)) t101))) else ((spec_l01Times.f x0 x0).bind fun t103 => (spec_l01Power.l0 k t103 (wrap64 (Int.tdiv x1 2)) x5))) else (some x5)
def spec_l01Power.f (k : Nat) (a0 : Int) (a1 : Int) : Option (Int) := spec_l01Power.l0 k a0 a1 1
theorem spec_l01Power.mono_l : ∀ k, (∀ y0 y1 y2, LeO (spec_l01Power.l0 k y0 y1 y2) (spec_l01Power.l0 (k + 1) y0 y1 y2))
  | 0 => fun _ _ _ r h => by simp [spec_l01Power.l0] at h
  | k + 1 => by
    have ih0 := spec_l01Power.mono_l k
    · intro y0 y1 y2
      unfold spec_l01Power.l0
      repeat' first
      | (with_reducible exact ih0 _ _ _)
      | (with_reducible exact LeO.refl _)
      | (with_reducible exact LeO.none _)
      | (with_reducible refine LeO.ite ?_ ?_)
      | (with_reducible refine LeO.bind ?_ (fun _ => ?_))
      | exact ih0 _ _ _
      | exact LeO.none _
      | refine LeO.ite ?_ ?_
      | refine LeO.bind ?_ (fun _ => ?_)
theorem spec_l01Power.mono : ∀ a0 a1 k, LeO (spec_l01Power.f k a0 a1) (spec_l01Power.f (k + 1) a0 a1) := by
  intro a0 a1 k
  have ih0 := spec_l01Power.mono_l k
  unfold spec_l01Power.f
  repeat' first
      | (with_reducible exact ih0 _ _ _)
      | (with_reducible exact LeO.refl _)
      | (with_reducible exact LeO.none _)
      | (with_reducible refine LeO.ite ?_ ?_)
      | (with_reducible refine LeO.bind ?_ (fun _ => ?_))
      | exact ih0 _ _ _
      | exact LeO.none _
      | refine LeO.ite ?_ ?_
      | refine LeO.bind ?_ (fun _ => ?_)
set_option maxHeartbeats 8000000 in
set_option maxRecDepth 100000 in
theorem spec_l01Power.calls (k : Nat) (a0 : Int) (a1 : Int) (r : Int) (w : World) (h : spec_l01Power.f k a0 a1 = some r) :
    Calls Try.prog 46 #[.int .u16 a0, .int .i64 a1] w fun e w' => e = .returned (.int .u16 r) ∧ Drawn0 w w' := by
  have H : (spec_l01Power.l0 k a0 a1 1) = some r := h
  clear h
  have H' := Aside0.mk H
  clear H
  go_enter Try.func46, Try.ntmps46
  go_wp2
  go_loopg [0, 1, 5] k (fun kq v0 v1 v5 w' => ∃ (x0_1 : Int) (x1_1 : Int) (x5_1 : Int), v0 = .int .u16 x0_1 ∧ v1 = .int .i64 x1_1 ∧ v5 = .int .u16 x5_1 ∧ Aside0 (spec_l01Power.l0 kq x0_1 x1_1 x5_1 = some r) ∧ Aside0 (kq ≤ k) ∧ Drawn0 w w')
  case atStart => exact ⟨(a0), (a1), (1), (by first | rfl | (simp; done) | (simp [*]; done)), (by first | rfl | (simp; done) | (simp [*]; done)), (by first | rfl | (simp; done) | (simp [*]; done)), H', ⟨Nat.le_refl _⟩, by repeat (first | exact Drawn0.refl _ | apply Drawn0.step)⟩
  case round =>
    clear H'
    try clear p2
    obtain ⟨x0_1, x1_1, x5_1, rfl, rfl, rfl, HA, HK1, ⟨m1, rfl⟩⟩ := hrel
    cases gk with
    | zero => exact absurd HA.out (by simp [spec_l01Power.l0])
    | succ k1 =>
      have H := HA.out
      clear HA
      simp only [spec_l01Power.l0] at H
      by_cases c3 : x1_1 > 0
      · rw [if_pos c3] at H
        have c3b0 : decide (0 < x1_1) = true := decide_eq_true c3
        clear c3
        by_cases c4 : (Int.tmod x1_1 2) = 1
        · rw [if_pos c4] at H
          have c4b0 : ((Int.tmod x1_1 2) == 1) = true := beq_iff_eq.mpr c4
          have c4b1 : ((Int.tmod x1_1 2) != 1) = false := bne_eq_false_iff_eq.mpr c4
          clear c4
          replace H := Option.bind_eq_some_iff.mp H
          obtain ⟨t101, A50, H⟩ := H
          replace H : ((spec_l01Times.f x0_1 x0_1).bind fun t102 => (spec_l01Power.l0 k1 t102 (wrap64 (Int.tdiv x1_1 2)) t101)) = some r := H
          have A5 := Aside0.mk A50
          clear A50
          replace H := Option.bind_eq_some_iff.mp H
          obtain ⟨t102, A60, H⟩ := H
          replace H : (spec_l01Power.l0 k1 t102 (wrap64 (Int.tdiv x1_1 2)) t101) = some r := H
          have A6 := Aside0.mk A60
          clear A60
          have H' := Aside0.mk H
          clear H
          go_wp2_with (first | ((with_reducible refine gate_callee (f := 43) rfl ?_); refine goesL_ (some 13) rfl rfl Try.func43 (by kernel_rfl) rfl #[.int .u16 x5_1, .int .u16 x0_1] rfl (by (try simp only [List.map_toArray, List.map_cons, List.map_nil]); first | done | rfl | (simp only [List.length_drop, List.length_take]; rfl)) ?_; (with_reducible refine (spec_l01Times.calls x5_1 x0_1 t101 _ A5.out).mono ?_); rintro e w' ⟨rfl, ⟨nd, rfl⟩⟩; refine ⟨_, rfl, ?_⟩) | ((with_reducible refine gate_callee (f := 43) rfl ?_); refine goesL_ (some 16) rfl rfl Try.func43 (by kernel_rfl) rfl #[.int .u16 x0_1, .int .u16 x0_1] rfl (by (try simp only [List.map_toArray, List.map_cons, List.map_nil]); first | done | rfl | (simp only [List.length_drop, List.length_take]; rfl)) ?_; (with_reducible refine (spec_l01Times.calls x0_1 x0_1 t102 _ A6.out).mono ?_); rintro e w' ⟨rfl, ⟨nd, rfl⟩⟩; refine ⟨_, rfl, ?_⟩))
          go_roundg k1
          case measure => have := HK1.out; omega
          case rel => exact ⟨(t102), (wrap64 (Int.tdiv x1_1 2)), (t101), (by first | rfl | (simp; done) | (simp [*]; done)), (by first | rfl | (simp; done) | (simp [*]; done)), (by first | rfl | (simp; done) | (simp [*]; done)), H', ⟨by have := HK1.out; omega⟩, by repeat (first | exact Drawn0.refl _ | apply Drawn0.step)⟩
        · rw [if_neg c4] at H
          have c4b0 : ((Int.tmod x1_1 2) == 1) = false := beq_eq_false_iff_ne.mpr c4
          have c4b1 : ((Int.tmod x1_1 2) != 1) = true := bne_iff_ne.mpr c4
          replace H := Option.bind_eq_some_iff.mp H
          obtain ⟨t103, A70, H⟩ := H
          replace H : (spec_l01Power.l0 k1 t103 (wrap64 (Int.tdiv x1_1 2)) x5_1) = some r := H
          have A7 := Aside0.mk A70
          clear A70
          have H' := Aside0.mk H
          clear H
          go_wp2_with (first | ((with_reducible refine gate_callee (f := 43) rfl ?_); refine goesL_ (some 16) rfl rfl Try.func43 (by kernel_rfl) rfl #[.int .u16 x0_1, .int .u16 x0_1] rfl (by (try simp only [List.map_toArray, List.map_cons, List.map_nil]); first | done | rfl | (simp only [List.length_drop, List.length_take]; rfl)) ?_; (with_reducible refine (spec_l01Times.calls x0_1 x0_1 t103 _ A7.out).mono ?_); rintro e w' ⟨rfl, ⟨nd, rfl⟩⟩; refine ⟨_, rfl, ?_⟩))
          go_roundg k1
          case measure => have := HK1.out; omega
          case rel => exact ⟨(t103), (wrap64 (Int.tdiv x1_1 2)), (x5_1), (by first | rfl | (simp; done) | (simp [*]; done)), (by first | rfl | (simp; done) | (simp [*]; done)), (by first | rfl | (simp; done) | (simp [*]; done)), H', ⟨by have := HK1.out; omega⟩, by repeat (first | exact Drawn0.refl _ | apply Drawn0.step)⟩
      · rw [if_neg c3] at H
        have c3b0 : decide (0 < x1_1) = false := decide_eq_false c3
        clear c3
        obtain rfl := Option.some.inj H
        go_wp2
        go_ret
        exact ⟨by first | rfl | (simp; done) | (simp [*]; done), by repeat (first | exact Drawn0.refl _ | apply Drawn0.step)⟩

/-! ### spec_RootOf: function 21 -/
def spec_RootOf.f (k : Nat) (a0 : Int) : Option (Int) := (spec_l01Power.f k a0 32768).bind fun t104 => (some t104)
theorem spec_RootOf.mono : ∀ a0 k, LeO (spec_RootOf.f k a0) (spec_RootOf.f (k + 1) a0) := by
  intro a0 k
  unfold spec_RootOf.f
  repeat' first
      | (with_reducible exact spec_l01Power.mono _ _ _)
      | (with_reducible exact LeO.refl _)
      | (with_reducible exact LeO.none _)
      | (with_reducible refine LeO.ite ?_ ?_)
      | (with_reducible refine LeO.bind ?_ (fun _ => ?_))
      | exact spec_l01Power.mono _ _ _
      | exact LeO.none _
      | refine LeO.ite ?_ ?_
      | refine LeO.bind ?_ (fun _ => ?_)
set_option maxHeartbeats 8000000 in
set_option maxRecDepth 100000 in
theorem spec_RootOf.calls (k : Nat) (a0 : Int) (r : Int) (w : World) (h : spec_RootOf.f k a0 = some r) :
    Calls Try.prog 21 #[.int .u16 a0] w fun e w' => e = .returned (.int .u16 r) ∧ Drawn0 w w' := by
  have H : ((spec_l01Power.f k a0 32768).bind fun t104 => (some t104)) = some r := h
  clear h
  replace H := Option.bind_eq_some_iff.mp H
  obtain ⟨t104, A20, H⟩ := H
  replace H : (some t104) = some r := H
  have A2 := Aside0.mk A20
  clear A20
  obtain rfl := Option.some.inj H
  go_enter Try.func21, Try.ntmps21
  go_wp2_with (first | ((with_reducible refine gate_callee (f := 46) rfl ?_); refine goesL_ (some 4) rfl rfl Try.func46 (by kernel_rfl) rfl #[.int .u16 a0, .int .i64 32768] rfl (by (try simp only [List.map_toArray, List.map_cons, List.map_nil]); first | done | rfl | (simp only [List.length_drop, List.length_take]; rfl)) ?_; (with_reducible refine (spec_l01Power.calls k a0 32768 t104 _ A2.out).mono ?_); rintro e w' ⟨rfl, ⟨nd, rfl⟩⟩; refine ⟨_, rfl, ?_⟩))
  go_ret
  exact ⟨by first | rfl | (simp; done) | (simp [*]; done), by repeat (first | exact Drawn0.refl _ | apply Drawn0.step)⟩

/-! ### impl_root: function 47 -/
def impl_root.l0 : Nat → Int → Int → Option (Int)
  | 0, _, _ => none
  | k + 1, x0, x3 => if x3 < 15 then ((impl_times.f x0 x0).bind fun t105 => (impl_root.l0 k t105 (wrap64 (x3 + 1)))) else (some x0)
def impl_root.f (k : Nat) (a0 : Int) : Option (Int) := impl_root.l0 k a0 0
theorem impl_root.mono_l : ∀ k, (∀ y0 y1, LeO (impl_root.l0 k y0 y1) (impl_root.l0 (k + 1) y0 y1))
  | 0 => fun _ _ r h => by simp [impl_root.l0] at h
  | k + 1 => by
    have ih0 := impl_root.mono_l k
    · intro y0 y1
      unfold impl_root.l0
      repeat' first
      | (with_reducible exact ih0 _ _)
      | (with_reducible exact LeO.refl _)
      | (with_reducible exact LeO.none _)
      | (with_reducible refine LeO.ite ?_ ?_)
      | (with_reducible refine LeO.bind ?_ (fun _ => ?_))
      | exact ih0 _ _
      | exact LeO.none _
      | refine LeO.ite ?_ ?_
      | refine LeO.bind ?_ (fun _ => ?_)
theorem impl_root.mono : ∀ a0 k, LeO (impl_root.f k a0) (impl_root.f (k + 1) a0) := by
  intro a0 k
  have ih0 := impl_root.mono_l k
  unfold impl_root.f
  repeat' first
      | (with_reducible exact ih0 _ _)
      | (with_reducible exact LeO.refl _)
      | (with_reducible exact LeO.none _)
      | (with_reducible refine LeO.ite ?_ ?_)
      | (with_reducible refine LeO.bind ?_ (fun _ => ?_))
      | exact ih0 _ _
      | exact LeO.none _
      | refine LeO.ite ?_ ?_
      | refine LeO.bind ?_ (fun _ => ?_)
set_option maxHeartbeats 8000000 in
set_option maxRecDepth 100000 in
theorem impl_root.calls (k : Nat) (a0 : Int) (r : Int) (w : World) (h : impl_root.f k a0 = some r) :
    Calls Try.prog 47 #[.int .u16 a0] w fun e w' => e = .returned (.int .u16 r) ∧ Drawn0 w w' := by
  have H : (impl_root.l0 k a0 0) = some r := h
  clear h
  have H' := Aside0.mk H
  clear H
  go_enter Try.func47, Try.ntmps47
  go_wp2
  go_loopg [0, 3] k (fun kq v0 v3 w' => ∃ (x0_1 : Int) (x3_1 : Int), v0 = .int .u16 x0_1 ∧ v3 = .int .i64 x3_1 ∧ Aside0 (impl_root.l0 kq x0_1 x3_1 = some r) ∧ Aside0 (kq ≤ k) ∧ Drawn0 w w')
  case atStart => exact ⟨(a0), (0), (by first | rfl | (simp; done) | (simp [*]; done)), (by first | rfl | (simp; done) | (simp [*]; done)), H', ⟨Nat.le_refl _⟩, by repeat (first | exact Drawn0.refl _ | apply Drawn0.step)⟩
  case round =>
    clear H'
    obtain ⟨x0_1, x3_1, rfl, rfl, HA, HK1, ⟨m1, rfl⟩⟩ := hrel
    cases gk with
    | zero => exact absurd HA.out (by simp [impl_root.l0])
    | succ k1 =>
      have H := HA.out
      clear HA
      simp only [impl_root.l0] at H
      by_cases c2 : x3_1 < 15
      · rw [if_pos c2] at H
        have c2b0 : decide (x3_1 < 15) = true := decide_eq_true c2
        clear c2
        replace H := Option.bind_eq_some_iff.mp H
        obtain ⟨t105, A30, H⟩ := H
        replace H : (impl_root.l0 k1 t105 (wrap64 (x3_1 + 1))) = some r := H
        have A3 := Aside0.mk A30
        clear A30
        have H' := Aside0.mk H
        clear H
        go_wp2_with (first | ((with_reducible refine gate_callee (f := 44) rfl ?_); refine goesL_ (some 7) rfl rfl Try.func44 (by kernel_rfl) rfl #[.int .u16 x0_1, .int .u16 x0_1] rfl (by (try simp only [List.map_toArray, List.map_cons, List.map_nil]); first | done | rfl | (simp only [List.length_drop, List.length_take]; rfl)) ?_; (with_reducible refine (impl_times.calls x0_1 x0_1 t105 _ A3.out).mono ?_); rintro e w' ⟨rfl, ⟨nd, rfl⟩⟩; refine ⟨_, rfl, ?_⟩))
        go_roundg k1
        case measure => have := HK1.out; omega
        case rel => exact ⟨(t105), (wrap64 (x3_1 + 1)), (by first | rfl | (simp; done) | (simp [*]; done)), (by first | rfl | (simp; done) | (simp [*]; done)), H', ⟨by have := HK1.out; omega⟩, by repeat (first | exact Drawn0.refl _ | apply Drawn0.step)⟩
      · rw [if_neg c2] at H
        have c2b0 : decide (x3_1 < 15) = false := decide_eq_false c2
        clear c2
        obtain rfl := Option.some.inj H
        go_wp2
        go_ret
        exact ⟨by first | rfl | (simp; done) | (simp [*]; done), by repeat (first | exact Drawn0.refl _ | apply Drawn0.step)⟩

/-! ### impl_RootOf: function 22 -/
def impl_RootOf.f (k : Nat) (a0 : Int) : Option (Int) := (impl_root.f k a0).bind fun t106 => (some t106)
theorem impl_RootOf.mono : ∀ a0 k, LeO (impl_RootOf.f k a0) (impl_RootOf.f (k + 1) a0) := by
  intro a0 k
  unfold impl_RootOf.f
  repeat' first
      | (with_reducible exact impl_root.mono _ _)
      | (with_reducible exact LeO.refl _)
      | (with_reducible exact LeO.none _)
      | (with_reducible refine LeO.ite ?_ ?_)
      | (with_reducible refine LeO.bind ?_ (fun _ => ?_))
      | exact impl_root.mono _ _
      | exact LeO.none _
      | refine LeO.ite ?_ ?_
      | refine LeO.bind ?_ (fun _ => ?_)
set_option maxHeartbeats 8000000 in
set_option maxRecDepth 100000 in
theorem impl_RootOf.calls (k : Nat) (a0 : Int) (r : Int) (w : World) (h : impl_RootOf.f k a0 = some r) :
    Calls Try.prog 22 #[.int .u16 a0] w fun e w' => e = .returned (.int .u16 r) ∧ Drawn0 w w' := by
  have H : ((impl_root.f k a0).bind fun t106 => (some t106)) = some r := h
  clear h
  replace H := Option.bind_eq_some_iff.mp H
  obtain ⟨t106, A20, H⟩ := H
  replace H : (some t106) = some r := H
  have A2 := Aside0.mk A20
  clear A20
  obtain rfl := Option.some.inj H
  go_enter Try.func22, Try.ntmps22
  go_wp2_with (first | ((with_reducible refine gate_callee (f := 47) rfl ?_); refine goesL_ (some 4) rfl rfl Try.func47 (by kernel_rfl) rfl #[.int .u16 a0] rfl (by (try simp only [List.map_toArray, List.map_cons, List.map_nil]); first | done | rfl | (simp only [List.length_drop, List.length_take]; rfl)) ?_; (with_reducible refine (impl_root.calls k a0 t106 _ A2.out).mono ?_); rintro e w' ⟨rfl, ⟨nd, rfl⟩⟩; refine ⟨_, rfl, ?_⟩))
  go_ret
  exact ⟨by first | rfl | (simp; done) | (simp [*]; done), by repeat (first | exact Drawn0.refl _ | apply Drawn0.step)⟩

/-! ### laws_FnExactRootOf: function 6 -/
def laws_FnExactRootOf.f (k : Nat) (a0 : Int) : Option (Bool) := (spec_RootOf.f k a0).bind fun t107 => ((impl_RootOf.f k a0).bind fun t108 => (if t108 = t107 then (some true) else (some false)))
theorem laws_FnExactRootOf.mono : ∀ a0 k, LeO (laws_FnExactRootOf.f k a0) (laws_FnExactRootOf.f (k + 1) a0) := by
  intro a0 k
  unfold laws_FnExactRootOf.f
  repeat' first
      | (with_reducible exact impl_RootOf.mono _ _)
      | (with_reducible exact spec_RootOf.mono _ _)
      | (with_reducible exact LeO.refl _)
      | (with_reducible exact LeO.none _)
      | (with_reducible refine LeO.ite ?_ ?_)
      | (with_reducible refine LeO.bind ?_ (fun _ => ?_))
      | exact impl_RootOf.mono _ _
      | exact spec_RootOf.mono _ _
      | exact LeO.none _
      | refine LeO.ite ?_ ?_
      | refine LeO.bind ?_ (fun _ => ?_)
set_option maxHeartbeats 8000000 in
set_option maxRecDepth 100000 in
theorem laws_FnExactRootOf.calls (k : Nat) (a0 : Int) (r : Bool) (w : World) (h : laws_FnExactRootOf.f k a0 = some r) :
    Calls Try.prog 6 #[.int .u16 a0] w fun e w' => e = .returned (.bool r) ∧ Drawn0 w w' := by
  have H : ((spec_RootOf.f k a0).bind fun t107 => ((impl_RootOf.f k a0).bind fun t108 => (if t108 = t107 then (some true) else (some false)))) = some r := h
  clear h
  replace H := Option.bind_eq_some_iff.mp H
  obtain ⟨t107, A20, H⟩ := H
  replace H : ((impl_RootOf.f k a0).bind fun t108 => (if t108 = t107 then (some true) else (some false))) = some r := H
  have A2 := Aside0.mk A20
  clear A20
  replace H := Option.bind_eq_some_iff.mp H
  obtain ⟨t108, A30, H⟩ := H
  replace H : (if t108 = t107 then (some true) else (some false)) = some r := H
  have A3 := Aside0.mk A30
  clear A30
  by_cases c4 : t108 = t107
  · rw [if_pos c4] at H
    have c4b0 : (t108 == t107) = true := beq_iff_eq.mpr c4
    have c4b1 : (t108 != t107) = false := bne_eq_false_iff_eq.mpr c4
    clear c4
    obtain rfl := Option.some.inj H
    go_enter Try.func6, Try.ntmps6
    go_wp2_with (first | ((with_reducible refine gate_callee (f := 21) rfl ?_); refine goesL_ (some 6) rfl rfl Try.func21 (by kernel_rfl) rfl #[.int .u16 a0] rfl (by (try simp only [List.map_toArray, List.map_cons, List.map_nil]); first | done | rfl | (simp only [List.length_drop, List.length_take]; rfl)) ?_; (with_reducible refine (spec_RootOf.calls k a0 t107 _ A2.out).mono ?_); rintro e w' ⟨rfl, ⟨nd, rfl⟩⟩; refine ⟨_, rfl, ?_⟩) | ((with_reducible refine gate_callee (f := 22) rfl ?_); refine goesL_ (some 8) rfl rfl Try.func22 (by kernel_rfl) rfl #[.int .u16 a0] rfl (by (try simp only [List.map_toArray, List.map_cons, List.map_nil]); first | done | rfl | (simp only [List.length_drop, List.length_take]; rfl)) ?_; (with_reducible refine (impl_RootOf.calls k a0 t108 _ A3.out).mono ?_); rintro e w' ⟨rfl, ⟨nd, rfl⟩⟩; refine ⟨_, rfl, ?_⟩))
    go_ret
    exact ⟨by first | rfl | (simp; done) | (simp [*]; done), by repeat (first | exact Drawn0.refl _ | apply Drawn0.step)⟩
  · rw [if_neg c4] at H
    have c4b0 : (t108 == t107) = false := beq_eq_false_iff_ne.mpr c4
    have c4b1 : (t108 != t107) = true := bne_iff_ne.mpr c4
    obtain rfl := Option.some.inj H
    go_enter Try.func6, Try.ntmps6
    go_wp2_with (first | ((with_reducible refine gate_callee (f := 21) rfl ?_); refine goesL_ (some 6) rfl rfl Try.func21 (by kernel_rfl) rfl #[.int .u16 a0] rfl (by (try simp only [List.map_toArray, List.map_cons, List.map_nil]); first | done | rfl | (simp only [List.length_drop, List.length_take]; rfl)) ?_; (with_reducible refine (spec_RootOf.calls k a0 t107 _ A2.out).mono ?_); rintro e w' ⟨rfl, ⟨nd, rfl⟩⟩; refine ⟨_, rfl, ?_⟩) | ((with_reducible refine gate_callee (f := 22) rfl ?_); refine goesL_ (some 8) rfl rfl Try.func22 (by kernel_rfl) rfl #[.int .u16 a0] rfl (by (try simp only [List.map_toArray, List.map_cons, List.map_nil]); first | done | rfl | (simp only [List.length_drop, List.length_take]; rfl)) ?_; (with_reducible refine (impl_RootOf.calls k a0 t108 _ A3.out).mono ?_); rintro e w' ⟨rfl, ⟨nd, rfl⟩⟩; refine ⟨_, rfl, ?_⟩))
    go_ret
    exact ⟨by first | rfl | (simp; done) | (simp [*]; done), by repeat (first | exact Drawn0.refl _ | apply Drawn0.step)⟩

/-- THE ONE PURE STATEMENT of laws_FnExactRootOf: yours. -/
def laws_FnExactRootOf.Pure : Prop := ∀ (a0 : Int), (Lit.int .u16 a0).wf = true → ∃ k, laws_FnExactRootOf.f k a0 = some true
theorem laws_FnExactRootOf.walk (P : laws_FnExactRootOf.Pure) (a0 : Int) (w : World) (w0 : (Lit.int .u16 a0).wf = true) :
    Calls Try.prog 6 #[.int .u16 a0] w fun e w' => e = .returned (.bool true) ∧ Below w.heap.size w w' := by
  obtain ⟨k, h⟩ := P a0 w0
  refine (laws_FnExactRootOf.calls k a0 true w h).mono ?_
  rintro e w' ⟨rfl, hd⟩
  exact ⟨rfl, hd.below⟩

end Go.Proofs.Ytenmcdnjbplnlaa.RFnExactRootOf
