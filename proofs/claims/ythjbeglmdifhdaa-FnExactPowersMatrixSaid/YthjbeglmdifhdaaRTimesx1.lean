-- WRITTEN BY A PROGRAM OF THIS SESSION over the walks that the kit prints; contracts of functions that the print does not take are this session's own
import Derived.Test.YthjbeglmdifhdaaRTimesx0
namespace Go.Proofs.Ythjbeglmdifhdaa.RTimes
open Go.RowKit Go.Proofs.YthjbeglmdifhdaaW.PrintWords Go.Proofs.YthjbeglmdifhdaaW.PrintLast Go.Proofs.YthjbeglmdifhdaaW.PrintMore
attribute [local go_sem] max2_int min2_int max_two min_two max_three min_three max_four min_four   -- for this text's walks alone
set_option linter.unusedVariables false
set_option linter.unusedSimpArgs false

/-! ### impl_half: function 87 -/
mutual
def impl_half.j0 : Nat → Int → Int → Bool → Option (Int)
  | 0, _, _, _ => none
  | k + 1, x0, x1, x14 => if x14 = true then (some x0) else (if 0 ≤ (wrap64 (Int.tdiv x1 2)) then ((impl_half.f k (shr .u32 x0 (wrap64 (Int.tdiv x1 2))) (wrap64 (Int.tdiv x1 2))).bind fun t101 => ((impl_half.f k t101 (wrap64 (Int.tdiv x1 2))).bind fun t102 => ((impl_half.f k (Go.bits .and .u32 x0 (((shl .u32 1 (wrap64 (Int.tdiv x1 2))) - 1) % 4294967296)) (wrap64 (Int.tdiv x1 2))).bind fun t103 => (some (Go.bits .or .u32 t102 (shl .u32 (Go.bits .xor .u32 t101 t103) (wrap64 (Int.tdiv x1 2)))))))) else (none))
def impl_half.f : Nat → Int → Int → Option (Int)
  | 0, _, _ => none
  | k + 1, a0, a1 => if a1 = 1 then (impl_half.j0 k a0 a1 true) else (impl_half.j0 k a0 a1 (a0 == 0))
end
theorem impl_half.mono_l : ∀ k, (∀ y0 y1, LeO (impl_half.f k y0 y1) (impl_half.f (k + 1) y0 y1)) ∧ (∀ y0 y1 y2, LeO (impl_half.j0 k y0 y1 y2) (impl_half.j0 (k + 1) y0 y1 y2))
  | 0 => ⟨fun _ _ r h => by simp [impl_half.f] at h, fun _ _ _ r h => by simp [impl_half.j0] at h⟩
  | k + 1 => by
    obtain ⟨ih0, ih1⟩ := impl_half.mono_l k
    refine ⟨?_, ?_⟩
    · intro y0 y1
      unfold impl_half.f
      repeat' first
      | (with_reducible exact ih0 _ _)
      | (with_reducible exact ih1 _ _ _)
      | (with_reducible exact LeO.refl _)
      | (with_reducible exact LeO.none _)
      | (with_reducible refine LeO.ite ?_ ?_)
      | (with_reducible refine LeO.bind ?_ (fun _ => ?_))
      | exact ih0 _ _
      | exact ih1 _ _ _
      | exact LeO.none _
      | refine LeO.ite ?_ ?_
      | refine LeO.bind ?_ (fun _ => ?_)
    · intro y0 y1 y2
      unfold impl_half.j0
      repeat' first
      | (with_reducible exact ih0 _ _)
      | (with_reducible exact ih1 _ _ _)
      | (with_reducible exact LeO.refl _)
      | (with_reducible exact LeO.none _)
      | (with_reducible refine LeO.ite ?_ ?_)
      | (with_reducible refine LeO.bind ?_ (fun _ => ?_))
      | exact ih0 _ _
      | exact ih1 _ _ _
      | exact LeO.none _
      | refine LeO.ite ?_ ?_
      | refine LeO.bind ?_ (fun _ => ?_)
theorem impl_half.mono : ∀ a0 a1 k, LeO (impl_half.f k a0 a1) (impl_half.f (k + 1) a0 a1) := by
  intro a0 a1 k
  obtain ⟨ih0, ih1⟩ := impl_half.mono_l k
  exact ih0 a0 a1
set_option maxHeartbeats 8000000 in
set_option maxRecDepth 100000 in
theorem impl_half.calls (k : Nat) : ∀ (a0 : Int) (a1 : Int) (r : Int) (w : World) (h : impl_half.f k a0 a1 = some r),
    Calls Try.prog 87 #[.int .u32 a0, .int .i64 a1] w fun e w' => e = .returned (.int .u32 r) ∧ Drawn0 w w' := by
  induction k using Nat.strongRecOn with
  | _ k ih =>
  intro a0 a1 r w h
  cases k with
  | zero => exact absurd h (by simp [impl_half.f])
  | succ k =>
  simp only [impl_half.f] at h
  have H : (if a1 = 1 then (impl_half.j0 k a0 a1 true) else (impl_half.j0 k a0 a1 (a0 == 0))) = some r := h
  clear h
  have HC3 := Aside0.mk H
  clear H
  go_enter Try.func87, Try.ntmps87
  go_upto_region 1 with (fail)
  repeat (go_quiet (fail); go_upto_region 1 with (fail))
  go_cut [14] (fun v14 wc => ∃ (kq : Nat) (x14_2 : Bool), v14 = .bool x14_2 ∧ Aside0 (impl_half.j0 kq a0 a1 x14_2 = some r) ∧ Aside0 (kq ≤ k) ∧ Drawn0 w wc)
  case first =>
    have H := HC3.out
    clear HC3
    by_cases c4 : a1 = 1
    · rw [if_pos c4] at H
      have c4b0 : (a1 == 1) = true := beq_iff_eq.mpr c4
      have c4b1 : (a1 != 1) = false := bne_eq_false_iff_eq.mpr c4
      clear c4
      (first | rw [c4b0] | (simp only [i64_w, i32_w]; rw [c4b0]) | skip)
      have H' := Aside0.mk H
      clear H
      go_wp2
      repeat (go_quiet (fail); try go_wp2)
      go_meet
      case rel => exact ⟨_, (true), (by first | rfl | (simp; done) | (simp [*]; done)), H', ⟨by first | omega | exact Nat.le_refl _⟩, by repeat (first | exact Drawn0.refl _ | apply Drawn0.step)⟩
    · rw [if_neg c4] at H
      have c4b0 : (a1 == 1) = false := beq_eq_false_iff_ne.mpr c4
      have c4b1 : (a1 != 1) = true := bne_iff_ne.mpr c4
      (first | rw [c4b0] | (simp only [i64_w, i32_w]; rw [c4b0]) | skip)
      have H' := Aside0.mk H
      clear H
      go_wp2
      repeat (go_quiet (fail); try go_wp2)
      go_meet
      case rel => exact ⟨_, ((a0 == 0)), (by first | rfl | (simp; done) | (simp [*]; done)), H', ⟨by first | omega | exact Nat.le_refl _⟩, by repeat (first | exact Drawn0.refl _ | apply Drawn0.step)⟩
  case rest =>
    clear HC3
    try clear p2
    try clear c4
    try clear c4b0
    try clear c4b1
    obtain ⟨kq, x14_2, rfl, HA, HJ2, ⟨mc2, rfl⟩⟩ := hcut
    cases kq with
    | zero => exact absurd HA.out (by simp [impl_half.j0])
    | succ kj2 =>
      have H := HA.out
      clear HA
      simp only [impl_half.j0] at H
      by_cases c5 : x14_2 = true
      · subst c5
        have H1 : (some a0) = some r := by rw [if_pos rfl] at H; exact H
        clear H
        have H := H1
        clear H1
        obtain rfl := Option.some.inj H
        go_wp2
        repeat (go_quiet (fail); try go_wp2)
        go_ret
        exact ⟨by first | rfl | (simp; done) | (simp [*]; done), by repeat (first | exact Drawn0.refl _ | apply Drawn0.step)⟩
      · replace c5 := Bool.eq_false_iff.mpr c5
        subst c5
        have H1 : (if 0 ≤ (wrap64 (Int.tdiv a1 2)) then ((impl_half.f kj2 (shr .u32 a0 (wrap64 (Int.tdiv a1 2))) (wrap64 (Int.tdiv a1 2))).bind fun t101 => ((impl_half.f kj2 t101 (wrap64 (Int.tdiv a1 2))).bind fun t102 => ((impl_half.f kj2 (Go.bits .and .u32 a0 (((shl .u32 1 (wrap64 (Int.tdiv a1 2))) - 1) % 4294967296)) (wrap64 (Int.tdiv a1 2))).bind fun t103 => (some (Go.bits .or .u32 t102 (shl .u32 (Go.bits .xor .u32 t101 t103) (wrap64 (Int.tdiv a1 2)))))))) else (none)) = some r := by rw [if_neg (show ¬ (false = true) by decide)] at H; exact H
        clear H
        have H := H1
        clear H1
        obtain ⟨ji6, hji6⟩ : ∃ j_ : Int, (wrap64 (Int.tdiv a1 2)) = j_ := ⟨_, rfl⟩
        replace H : (if 0 ≤ (ji6) then ((impl_half.f kj2 (shr .u32 a0 (ji6)) (ji6)).bind fun t101 => ((impl_half.f kj2 t101 (ji6)).bind fun t102 => ((impl_half.f kj2 (Go.bits .and .u32 a0 (((shl .u32 1 (ji6)) - 1) % 4294967296)) (ji6)).bind fun t103 => (some (Go.bits .or .u32 t102 (shl .u32 (Go.bits .xor .u32 t101 t103) (ji6))))))) else (none)) = some r := by first | (rw [hji6] at H; exact H) | (simp only [hji6] at H ⊢; exact H)
        have hji6w : (IntKind.i64.wrap (Int.tdiv a1 2)) = ji6 := (i64_w _).trans hji6
        by_cases c7 : 0 ≤ (ji6)
        · rw [if_pos c7] at H
          have c7b0 := eq_true c7
          have c7b1 : decide (0 ≤ (ji6)) = true := decide_eq_true c7
          clear c7
          obtain ⟨ji8, hji8⟩ : ∃ j_ : Int, (shl .u32 1 (ji6)) = j_ := ⟨_, rfl⟩
          replace H : ((impl_half.f kj2 (shr .u32 a0 (ji6)) (ji6)).bind fun t101 => ((impl_half.f kj2 t101 (ji6)).bind fun t102 => ((impl_half.f kj2 (Go.bits .and .u32 a0 (((ji8) - 1) % 4294967296)) (ji6)).bind fun t103 => (some (Go.bits .or .u32 t102 (shl .u32 (Go.bits .xor .u32 t101 t103) (ji6))))))) = some r := by first | (rw [hji8] at H; exact H) | (simp only [hji8] at H ⊢; exact H)
          have hji8_ : (IntKind.u32.wrap (1 * 2 ^ min (ji6).toNat 32)) = ji8 := hji8
          have hji8z : (ji6) ≤ 32 → (IntKind.u32.wrap (1 * 2 ^ (ji6).toNat)) = ji8 := shl_small hji8
          have hji8u : (IntKind.u32.wrap (2 ^ min (ji6).toNat 32)) = ji8 := by have h_ := hji8_; rw [Int.one_mul] at h_; exact h_
          have hji8v : (ji6) ≤ 32 → (IntKind.u32.wrap (2 ^ (ji6).toNat)) = ji8 := fun hle_ => by have h_ := hji8z hle_; rw [Int.one_mul] at h_; exact h_
          have c9b0 := eq_true (of_decide_eq_true (by first | (with_reducible assumption) | assumption) : 0 ≤ (ji6))
          obtain ⟨ji10, hji10⟩ : ∃ j_ : Int, (shr .u32 a0 (ji6)) = j_ := ⟨_, rfl⟩
          replace H : ((impl_half.f kj2 (ji10) (ji6)).bind fun t101 => ((impl_half.f kj2 t101 (ji6)).bind fun t102 => ((impl_half.f kj2 (Go.bits .and .u32 a0 (((ji8) - 1) % 4294967296)) (ji6)).bind fun t103 => (some (Go.bits .or .u32 t102 (shl .u32 (Go.bits .xor .u32 t101 t103) (ji6))))))) = some r := by first | (rw [hji10] at H; exact H) | (simp only [hji10] at H ⊢; exact H)
          have hji10_ : (a0 / 2 ^ min (ji6).toNat 32) = ji10 := hji10
          have hji10z : (ji6) ≤ 32 → (a0 / 2 ^ (ji6).toNat) = ji10 := shr_small hji10
          replace H := Option.bind_eq_some_iff.mp H
          obtain ⟨t101, A110, H⟩ := H
          replace H : ((impl_half.f kj2 t101 (ji6)).bind fun t102 => ((impl_half.f kj2 (Go.bits .and .u32 a0 (((ji8) - 1) % 4294967296)) (ji6)).bind fun t103 => (some (Go.bits .or .u32 t102 (shl .u32 (Go.bits .xor .u32 t101 t103) (ji6)))))) = some r := H
          have A11 := Aside0.mk A110
          clear A110
          replace H := Option.bind_eq_some_iff.mp H
          obtain ⟨t102, A120, H⟩ := H
          replace H : ((impl_half.f kj2 (Go.bits .and .u32 a0 (((ji8) - 1) % 4294967296)) (ji6)).bind fun t103 => (some (Go.bits .or .u32 t102 (shl .u32 (Go.bits .xor .u32 t101 t103) (ji6))))) = some r := H
          have A12 := Aside0.mk A120
          clear A120
          replace H := Option.bind_eq_some_iff.mp H
          obtain ⟨t103, A130, H⟩ := H
          replace H : (some (Go.bits .or .u32 t102 (shl .u32 (Go.bits .xor .u32 t101 t103) (ji6)))) = some r := H
          have A13 := Aside0.mk A130
          clear A130
          have c14b0 := eq_true (of_decide_eq_true (by first | (with_reducible assumption) | assumption) : 0 ≤ (ji6))
          obtain ⟨ji15, hji15⟩ : ∃ j_ : Int, (shl .u32 (Go.bits .xor .u32 t101 t103) (ji6)) = j_ := ⟨_, rfl⟩
          replace H : (some (Go.bits .or .u32 t102 (ji15))) = some r := by first | (rw [hji15] at H; exact H) | (simp only [hji15] at H ⊢; exact H)
          (try rw [hji15] at A11)
          (try rw [hji15] at A12)
          (try rw [hji15] at A13)
          have hji15_ : (IntKind.u32.wrap ((Go.bits .xor .u32 t101 t103) * 2 ^ min (ji6).toNat 32)) = ji15 := hji15
          have hji15z : (ji6) ≤ 32 → (IntKind.u32.wrap ((Go.bits .xor .u32 t101 t103) * 2 ^ (ji6).toNat)) = ji15 := shl_small hji15
          obtain rfl := Option.some.inj H
          go_wp2_with (first | (go_at_call 87; (with_reducible refine (ih kj2 (by have := HJ2.out; omega) ji10 ji6 t101 _ A11.out).mono ?_); rintro e w' ⟨rfl, ⟨nd, rfl⟩⟩; (try first | exact ⟨rfl, _, World.drewN_drewN _ _ _⟩ | exact ⟨rfl, _, Eq.trans (World.drewN_drewN _ _ _) (congrArg (World.drewN _) (Nat.add_assoc _ _ _))⟩)) | (go_at_call 87; (with_reducible refine (ih kj2 (by have := HJ2.out; omega) t101 ji6 t102 _ A12.out).mono ?_); rintro e w' ⟨rfl, ⟨nd, rfl⟩⟩; (try first | exact ⟨rfl, _, World.drewN_drewN _ _ _⟩ | exact ⟨rfl, _, Eq.trans (World.drewN_drewN _ _ _) (congrArg (World.drewN _) (Nat.add_assoc _ _ _))⟩)) | (go_at_call 87; (with_reducible refine (ih kj2 (by have := HJ2.out; omega) (Go.bits .and .u32 a0 (((ji8) - 1) % 4294967296)) ji6 t103 _ A13.out).mono ?_); rintro e w' ⟨rfl, ⟨nd, rfl⟩⟩; (try first | exact ⟨rfl, _, World.drewN_drewN _ _ _⟩ | exact ⟨rfl, _, Eq.trans (World.drewN_drewN _ _ _) (congrArg (World.drewN _) (Nat.add_assoc _ _ _))⟩)))
          repeat (go_quiet (first | (go_at_call 87; (with_reducible refine (ih kj2 (by have := HJ2.out; omega) ji10 ji6 t101 _ A11.out).mono ?_); rintro e w' ⟨rfl, ⟨nd, rfl⟩⟩; (try first | exact ⟨rfl, _, World.drewN_drewN _ _ _⟩ | exact ⟨rfl, _, Eq.trans (World.drewN_drewN _ _ _) (congrArg (World.drewN _) (Nat.add_assoc _ _ _))⟩)) | (go_at_call 87; (with_reducible refine (ih kj2 (by have := HJ2.out; omega) t101 ji6 t102 _ A12.out).mono ?_); rintro e w' ⟨rfl, ⟨nd, rfl⟩⟩; (try first | exact ⟨rfl, _, World.drewN_drewN _ _ _⟩ | exact ⟨rfl, _, Eq.trans (World.drewN_drewN _ _ _) (congrArg (World.drewN _) (Nat.add_assoc _ _ _))⟩)) | (go_at_call 87; (with_reducible refine (ih kj2 (by have := HJ2.out; omega) (Go.bits .and .u32 a0 (((ji8) - 1) % 4294967296)) ji6 t103 _ A13.out).mono ?_); rintro e w' ⟨rfl, ⟨nd, rfl⟩⟩; (try first | exact ⟨rfl, _, World.drewN_drewN _ _ _⟩ | exact ⟨rfl, _, Eq.trans (World.drewN_drewN _ _ _) (congrArg (World.drewN _) (Nat.add_assoc _ _ _))⟩))); try go_wp2_with (first | (go_at_call 87; (with_reducible refine (ih kj2 (by have := HJ2.out; omega) ji10 ji6 t101 _ A11.out).mono ?_); rintro e w' ⟨rfl, ⟨nd, rfl⟩⟩; (try first | exact ⟨rfl, _, World.drewN_drewN _ _ _⟩ | exact ⟨rfl, _, Eq.trans (World.drewN_drewN _ _ _) (congrArg (World.drewN _) (Nat.add_assoc _ _ _))⟩)) | (go_at_call 87; (with_reducible refine (ih kj2 (by have := HJ2.out; omega) t101 ji6 t102 _ A12.out).mono ?_); rintro e w' ⟨rfl, ⟨nd, rfl⟩⟩; (try first | exact ⟨rfl, _, World.drewN_drewN _ _ _⟩ | exact ⟨rfl, _, Eq.trans (World.drewN_drewN _ _ _) (congrArg (World.drewN _) (Nat.add_assoc _ _ _))⟩)) | (go_at_call 87; (with_reducible refine (ih kj2 (by have := HJ2.out; omega) (Go.bits .and .u32 a0 (((ji8) - 1) % 4294967296)) ji6 t103 _ A13.out).mono ?_); rintro e w' ⟨rfl, ⟨nd, rfl⟩⟩; (try first | exact ⟨rfl, _, World.drewN_drewN _ _ _⟩ | exact ⟨rfl, _, Eq.trans (World.drewN_drewN _ _ _) (congrArg (World.drewN _) (Nat.add_assoc _ _ _))⟩))))
          go_ret
          exact ⟨by first | rfl | (simp; done) | (simp only [← hji6, ← hji8, ← hji10, ← hji15] <;> (first | rfl | simp)) | (simp [*]; done), by repeat (first | exact Drawn0.refl _ | apply Drawn0.step)⟩
        · rw [if_neg c7] at H
          exact absurd H (by simp)

/-! ### impl_product: function 78 -/
mutual
def impl_product.j0 : Nat → Int → Int → Int → Bool → Option (Int)
  | 0, _, _, _, _ => none
  | k + 1, x0, x1, x2, x16 => if x16 = true then (some 0) else (if x0 = 1 then (some x1) else (if x1 = 1 then (some x0) else (if 0 ≤ (wrap64 (Int.tdiv x2 2)) then (if (shr .u32 x0 (wrap64 (Int.tdiv x2 2))) = 0 then (impl_product.j1 k (wrap64 (Int.tdiv x2 2)) (Go.bits .and .u32 x0 (((shl .u32 1 (wrap64 (Int.tdiv x2 2))) - 1) % 4294967296)) (shr .u32 x0 (wrap64 (Int.tdiv x2 2))) (Go.bits .and .u32 x1 (((shl .u32 1 (wrap64 (Int.tdiv x2 2))) - 1) % 4294967296)) (shr .u32 x1 (wrap64 (Int.tdiv x2 2))) ((shr .u32 x1 (wrap64 (Int.tdiv x2 2))) == 0)) else (impl_product.j1 k (wrap64 (Int.tdiv x2 2)) (Go.bits .and .u32 x0 (((shl .u32 1 (wrap64 (Int.tdiv x2 2))) - 1) % 4294967296)) (shr .u32 x0 (wrap64 (Int.tdiv x2 2))) (Go.bits .and .u32 x1 (((shl .u32 1 (wrap64 (Int.tdiv x2 2))) - 1) % 4294967296)) (shr .u32 x1 (wrap64 (Int.tdiv x2 2))) false)) else (none))))
def impl_product.j1 : Nat → Int → Int → Int → Int → Int → Bool → Option (Int)
  | 0, _, _, _, _, _, _ => none
  | k + 1, x7, x9, x10, x11, x12, x53 => if x53 = true then ((impl_product.f k x9 x11 x7).bind fun t104 => (some t104)) else ((impl_product.f k x10 x12 x7).bind fun t105 => ((impl_product.f k x9 x11 x7).bind fun t106 => ((impl_product.f k (Go.bits .xor .u32 x9 x10) (Go.bits .xor .u32 x11 x12) x7).bind fun t107 => (if 0 ≤ x7 then ((impl_half.f k t105 x7).bind fun t108 => (some (Go.bits .xor .u32 (Go.bits .or .u32 (shl .u32 (Go.bits .xor .u32 t107 t106) x7) t106) t108))) else (none)))))
def impl_product.f : Nat → Int → Int → Int → Option (Int)
  | 0, _, _, _ => none
  | k + 1, a0, a1, a2 => if a0 = 0 then (impl_product.j0 k a0 a1 a2 true) else (impl_product.j0 k a0 a1 a2 (a1 == 0))
end
theorem impl_product.mono_l : ∀ k, (∀ y0 y1 y2, LeO (impl_product.f k y0 y1 y2) (impl_product.f (k + 1) y0 y1 y2)) ∧ (∀ y0 y1 y2 y3, LeO (impl_product.j0 k y0 y1 y2 y3) (impl_product.j0 (k + 1) y0 y1 y2 y3)) ∧ (∀ y0 y1 y2 y3 y4 y5, LeO (impl_product.j1 k y0 y1 y2 y3 y4 y5) (impl_product.j1 (k + 1) y0 y1 y2 y3 y4 y5))
  | 0 => ⟨fun _ _ _ r h => by simp [impl_product.f] at h, fun _ _ _ _ r h => by simp [impl_product.j0] at h, fun _ _ _ _ _ _ r h => by simp [impl_product.j1] at h⟩
  | k + 1 => by
    obtain ⟨ih0, ih1, ih2⟩ := impl_product.mono_l k
    refine ⟨?_, ?_, ?_⟩
    · intro y0 y1 y2
      unfold impl_product.f
      repeat' first
      | (with_reducible exact ih0 _ _ _)
      | (with_reducible exact ih1 _ _ _ _)
      | (with_reducible exact ih2 _ _ _ _ _ _)
      | (with_reducible exact impl_half.mono _ _ _)
      | (with_reducible exact LeO.refl _)
      | (with_reducible exact LeO.none _)
      | (with_reducible refine LeO.ite ?_ ?_)
      | (with_reducible refine LeO.bind ?_ (fun _ => ?_))
      | exact ih0 _ _ _
      | exact ih1 _ _ _ _
      | exact ih2 _ _ _ _ _ _
      | exact impl_half.mono _ _ _
      | exact LeO.none _
      | refine LeO.ite ?_ ?_
      | refine LeO.bind ?_ (fun _ => ?_)
    · intro y0 y1 y2 y3
      unfold impl_product.j0
      repeat' first
      | (with_reducible exact ih0 _ _ _)
      | (with_reducible exact ih1 _ _ _ _)
      | (with_reducible exact ih2 _ _ _ _ _ _)
      | (with_reducible exact impl_half.mono _ _ _)
      | (with_reducible exact LeO.refl _)
      | (with_reducible exact LeO.none _)
      | (with_reducible refine LeO.ite ?_ ?_)
      | (with_reducible refine LeO.bind ?_ (fun _ => ?_))
      | exact ih0 _ _ _
      | exact ih1 _ _ _ _
      | exact ih2 _ _ _ _ _ _
      | exact impl_half.mono _ _ _
      | exact LeO.none _
      | refine LeO.ite ?_ ?_
      | refine LeO.bind ?_ (fun _ => ?_)
    · intro y0 y1 y2 y3 y4 y5
      unfold impl_product.j1
      repeat' first
      | (with_reducible exact ih0 _ _ _)
      | (with_reducible exact ih1 _ _ _ _)
      | (with_reducible exact ih2 _ _ _ _ _ _)
      | (with_reducible exact impl_half.mono _ _ _)
      | (with_reducible exact LeO.refl _)
      | (with_reducible exact LeO.none _)
      | (with_reducible refine LeO.ite ?_ ?_)
      | (with_reducible refine LeO.bind ?_ (fun _ => ?_))
      | exact ih0 _ _ _
      | exact ih1 _ _ _ _
      | exact ih2 _ _ _ _ _ _
      | exact impl_half.mono _ _ _
      | exact LeO.none _
      | refine LeO.ite ?_ ?_
      | refine LeO.bind ?_ (fun _ => ?_)
theorem impl_product.mono : ∀ a0 a1 a2 k, LeO (impl_product.f k a0 a1 a2) (impl_product.f (k + 1) a0 a1 a2) := by
  intro a0 a1 a2 k
  obtain ⟨ih0, ih1, ih2⟩ := impl_product.mono_l k
  exact ih0 a0 a1 a2
set_option maxHeartbeats 8000000 in
set_option maxRecDepth 100000 in
theorem impl_product.calls (k : Nat) : ∀ (a0 : Int) (a1 : Int) (a2 : Int) (r : Int) (w : World) (h : impl_product.f k a0 a1 a2 = some r),
    Calls Try.prog 78 #[.int .u32 a0, .int .u32 a1, .int .i64 a2] w fun e w' => e = .returned (.int .u32 r) ∧ Drawn0 w w' := by
  induction k using Nat.strongRecOn with
  | _ k ih =>
  intro a0 a1 a2 r w h
  cases k with
  | zero => exact absurd h (by simp [impl_product.f])
  | succ k =>
  simp only [impl_product.f] at h
  have H : (if a0 = 0 then (impl_product.j0 k a0 a1 a2 true) else (impl_product.j0 k a0 a1 a2 (a1 == 0))) = some r := h
  clear h
  have HC4 := Aside0.mk H
  clear H
  go_enter Try.func78, Try.ntmps78
  go_upto_region 1 with (fail)
  repeat (go_quiet (fail); go_upto_region 1 with (fail))
  go_cut [16] (fun v16 wc => ∃ (kq : Nat) (x16_3 : Bool), v16 = .bool x16_3 ∧ Aside0 (impl_product.j0 kq a0 a1 a2 x16_3 = some r) ∧ Aside0 (kq ≤ k) ∧ Drawn0 w wc)
  case first =>
    have H := HC4.out
    clear HC4
    by_cases c5 : a0 = 0
    · rw [if_pos c5] at H
      have c5b0 : (a0 == 0) = true := beq_iff_eq.mpr c5
      have c5b1 : (a0 != 0) = false := bne_eq_false_iff_eq.mpr c5
      clear c5
      (first | rw [c5b0] | (simp only [i64_w, i32_w]; rw [c5b0]) | skip)
      have H' := Aside0.mk H
      clear H
      go_wp2
      repeat (go_quiet (fail); try go_wp2)
      go_meet
      case rel => exact ⟨_, (true), (by first | rfl | (simp; done) | (simp [*]; done)), H', ⟨by first | omega | exact Nat.le_refl _⟩, by repeat (first | exact Drawn0.refl _ | apply Drawn0.step)⟩
    · rw [if_neg c5] at H
      have c5b0 : (a0 == 0) = false := beq_eq_false_iff_ne.mpr c5
      have c5b1 : (a0 != 0) = true := bne_iff_ne.mpr c5
      (first | rw [c5b0] | (simp only [i64_w, i32_w]; rw [c5b0]) | skip)
      have H' := Aside0.mk H
      clear H
      go_wp2
      repeat (go_quiet (fail); try go_wp2)
      go_meet
      case rel => exact ⟨_, ((a1 == 0)), (by first | rfl | (simp; done) | (simp [*]; done)), H', ⟨by first | omega | exact Nat.le_refl _⟩, by repeat (first | exact Drawn0.refl _ | apply Drawn0.step)⟩
  case rest =>
    clear HC4
    try clear p2
    try clear c5
    try clear c5b0
    try clear c5b1
    obtain ⟨kq, x16_3, rfl, HA, HJ3, ⟨mc3, rfl⟩⟩ := hcut
    cases kq with
    | zero => exact absurd HA.out (by simp [impl_product.j0])
    | succ kj3 =>
      have H := HA.out
      clear HA
      simp only [impl_product.j0] at H
      by_cases c6 : x16_3 = true
      · subst c6
        have H1 : (some 0) = some r := by rw [if_pos rfl] at H; exact H
        clear H
        have H := H1
        clear H1
        obtain rfl := Option.some.inj H
        go_wp2
        repeat (go_quiet (fail); try go_wp2)
        go_ret
        exact ⟨by first | rfl | (simp; done) | (simp [*]; done), by repeat (first | exact Drawn0.refl _ | apply Drawn0.step)⟩
      · replace c6 := Bool.eq_false_iff.mpr c6
        subst c6
        have H1 : (if a0 = 1 then (some a1) else (if a1 = 1 then (some a0) else (if 0 ≤ (wrap64 (Int.tdiv a2 2)) then (if (shr .u32 a0 (wrap64 (Int.tdiv a2 2))) = 0 then (impl_product.j1 kj3 (wrap64 (Int.tdiv a2 2)) (Go.bits .and .u32 a0 (((shl .u32 1 (wrap64 (Int.tdiv a2 2))) - 1) % 4294967296)) (shr .u32 a0 (wrap64 (Int.tdiv a2 2))) (Go.bits .and .u32 a1 (((shl .u32 1 (wrap64 (Int.tdiv a2 2))) - 1) % 4294967296)) (shr .u32 a1 (wrap64 (Int.tdiv a2 2))) ((shr .u32 a1 (wrap64 (Int.tdiv a2 2))) == 0)) else (impl_product.j1 kj3 (wrap64 (Int.tdiv a2 2)) (Go.bits .and .u32 a0 (((shl .u32 1 (wrap64 (Int.tdiv a2 2))) - 1) % 4294967296)) (shr .u32 a0 (wrap64 (Int.tdiv a2 2))) (Go.bits .and .u32 a1 (((shl .u32 1 (wrap64 (Int.tdiv a2 2))) - 1) % 4294967296)) (shr .u32 a1 (wrap64 (Int.tdiv a2 2))) false)) else (none)))) = some r := by rw [if_neg (show ¬ (false = true) by decide)] at H; exact H
        clear H
        have H := H1
        clear H1
        by_cases c7 : a0 = 1
        · rw [if_pos c7] at H
          have c7b0 : (a0 == 1) = true := beq_iff_eq.mpr c7
          have c7b1 : (a0 != 1) = false := bne_eq_false_iff_eq.mpr c7
          clear c7
          obtain rfl := Option.some.inj H
          go_wp2
          repeat (go_quiet (fail); try go_wp2)
          go_ret
          exact ⟨by first | rfl | (simp; done) | (simp [*]; done), by repeat (first | exact Drawn0.refl _ | apply Drawn0.step)⟩
        · rw [if_neg c7] at H
          have c7b0 : (a0 == 1) = false := beq_eq_false_iff_ne.mpr c7
          have c7b1 : (a0 != 1) = true := bne_iff_ne.mpr c7
          by_cases c8 : a1 = 1
          · rw [if_pos c8] at H
            have c8b0 : (a1 == 1) = true := beq_iff_eq.mpr c8
            have c8b1 : (a1 != 1) = false := bne_eq_false_iff_eq.mpr c8
            clear c8
            obtain rfl := Option.some.inj H
            go_wp2
            repeat (go_quiet (fail); try go_wp2)
            go_ret
            exact ⟨by first | rfl | (simp; done) | (simp [*]; done), by repeat (first | exact Drawn0.refl _ | apply Drawn0.step)⟩
          · rw [if_neg c8] at H
            have c8b0 : (a1 == 1) = false := beq_eq_false_iff_ne.mpr c8
            have c8b1 : (a1 != 1) = true := bne_iff_ne.mpr c8
            obtain ⟨ji9, hji9⟩ : ∃ j_ : Int, (wrap64 (Int.tdiv a2 2)) = j_ := ⟨_, rfl⟩
            replace H : (if 0 ≤ (ji9) then (if (shr .u32 a0 (ji9)) = 0 then (impl_product.j1 kj3 ji9 (Go.bits .and .u32 a0 (((shl .u32 1 (ji9)) - 1) % 4294967296)) (shr .u32 a0 (ji9)) (Go.bits .and .u32 a1 (((shl .u32 1 (ji9)) - 1) % 4294967296)) (shr .u32 a1 (ji9)) ((shr .u32 a1 (ji9)) == 0)) else (impl_product.j1 kj3 ji9 (Go.bits .and .u32 a0 (((shl .u32 1 (ji9)) - 1) % 4294967296)) (shr .u32 a0 (ji9)) (Go.bits .and .u32 a1 (((shl .u32 1 (ji9)) - 1) % 4294967296)) (shr .u32 a1 (ji9)) false)) else (none)) = some r := by first | (rw [hji9] at H; exact H) | (simp only [hji9] at H ⊢; exact H)
            have hji9w : (IntKind.i64.wrap (Int.tdiv a2 2)) = ji9 := (i64_w _).trans hji9
            by_cases c10 : 0 ≤ (ji9)
            · rw [if_pos c10] at H
              have c10b0 := eq_true c10
              have c10b1 : decide (0 ≤ (ji9)) = true := decide_eq_true c10
              clear c10
              obtain ⟨ji11, hji11⟩ : ∃ j_ : Int, (shl .u32 1 (ji9)) = j_ := ⟨_, rfl⟩
              replace H : (if (shr .u32 a0 (ji9)) = 0 then (impl_product.j1 kj3 ji9 (Go.bits .and .u32 a0 (((ji11) - 1) % 4294967296)) (shr .u32 a0 (ji9)) (Go.bits .and .u32 a1 (((ji11) - 1) % 4294967296)) (shr .u32 a1 (ji9)) ((shr .u32 a1 (ji9)) == 0)) else (impl_product.j1 kj3 ji9 (Go.bits .and .u32 a0 (((ji11) - 1) % 4294967296)) (shr .u32 a0 (ji9)) (Go.bits .and .u32 a1 (((ji11) - 1) % 4294967296)) (shr .u32 a1 (ji9)) false)) = some r := by first | (rw [hji11] at H; exact H) | (simp only [hji11] at H ⊢; exact H)
              have hji11_ : (IntKind.u32.wrap (1 * 2 ^ min (ji9).toNat 32)) = ji11 := hji11
              have hji11z : (ji9) ≤ 32 → (IntKind.u32.wrap (1 * 2 ^ (ji9).toNat)) = ji11 := shl_small hji11
              have hji11u : (IntKind.u32.wrap (2 ^ min (ji9).toNat 32)) = ji11 := by have h_ := hji11_; rw [Int.one_mul] at h_; exact h_
              have hji11v : (ji9) ≤ 32 → (IntKind.u32.wrap (2 ^ (ji9).toNat)) = ji11 := fun hle_ => by have h_ := hji11z hle_; rw [Int.one_mul] at h_; exact h_
              have c12b0 := eq_true (of_decide_eq_true (by first | (with_reducible assumption) | assumption) : 0 ≤ (ji9))
              obtain ⟨ji13, hji13⟩ : ∃ j_ : Int, (shr .u32 a0 (ji9)) = j_ := ⟨_, rfl⟩
              replace H : (if (ji13) = 0 then (impl_product.j1 kj3 ji9 (Go.bits .and .u32 a0 (((ji11) - 1) % 4294967296)) ji13 (Go.bits .and .u32 a1 (((ji11) - 1) % 4294967296)) (shr .u32 a1 (ji9)) ((shr .u32 a1 (ji9)) == 0)) else (impl_product.j1 kj3 ji9 (Go.bits .and .u32 a0 (((ji11) - 1) % 4294967296)) ji13 (Go.bits .and .u32 a1 (((ji11) - 1) % 4294967296)) (shr .u32 a1 (ji9)) false)) = some r := by first | (rw [hji13] at H; exact H) | (simp only [hji13] at H ⊢; exact H)
              have hji13_ : (a0 / 2 ^ min (ji9).toNat 32) = ji13 := hji13
              have hji13z : (ji9) ≤ 32 → (a0 / 2 ^ (ji9).toNat) = ji13 := shr_small hji13
              have c14b0 := eq_true (of_decide_eq_true (by first | (with_reducible assumption) | assumption) : 0 ≤ (ji9))
              obtain ⟨ji15, hji15⟩ : ∃ j_ : Int, (shr .u32 a1 (ji9)) = j_ := ⟨_, rfl⟩
              replace H : (if (ji13) = 0 then (impl_product.j1 kj3 ji9 (Go.bits .and .u32 a0 (((ji11) - 1) % 4294967296)) ji13 (Go.bits .and .u32 a1 (((ji11) - 1) % 4294967296)) ji15 ((ji15) == 0)) else (impl_product.j1 kj3 ji9 (Go.bits .and .u32 a0 (((ji11) - 1) % 4294967296)) ji13 (Go.bits .and .u32 a1 (((ji11) - 1) % 4294967296)) ji15 false)) = some r := by first | (rw [hji15] at H; exact H) | (simp only [hji15] at H ⊢; exact H)
              have hji15_ : (a1 / 2 ^ min (ji9).toNat 32) = ji15 := hji15
              have hji15z : (ji9) ≤ 32 → (a1 / 2 ^ (ji9).toNat) = ji15 := shr_small hji15
              have HC16 := Aside0.mk H
              clear H
              go_upto_region 10 with (fail)
              repeat (go_quiet (fail); go_upto_region 10 with (fail))
              go_cut [53] (fun v53 wc => ∃ (kq : Nat) (x53_15 : Bool), v53 = .bool x53_15 ∧ Aside0 (impl_product.j1 kq ji9 (Go.bits .and .u32 a0 (((ji11) - 1) % 4294967296)) ji13 (Go.bits .and .u32 a1 (((ji11) - 1) % 4294967296)) ji15 x53_15 = some r) ∧ Aside0 (kq ≤ kj3) ∧ Drawn0 w wc)
              case first =>
                have H := HC16.out
                clear HC16
                by_cases c17 : (ji13) = 0
                · rw [if_pos c17] at H
                  have c17b0 : ((ji13) == 0) = true := beq_iff_eq.mpr c17
                  have c17b1 : ((ji13) != 0) = false := bne_eq_false_iff_eq.mpr c17
                  clear c17
                  (first | rw [c17b0] | (simp only [i64_w, i32_w]; rw [c17b0]) | skip)
                  have H' := Aside0.mk H
                  clear H
                  go_wp2
                  repeat (go_quiet (fail); try go_wp2)
                  go_meet
                  case rel => exact ⟨_, (((ji15) == 0)), (by first | rfl | (simp; done) | (simp only [← hji15] <;> (first | rfl | simp)) | (simp [*]; done)), H', ⟨by have := HJ3.out; first | omega | exact Nat.le_refl _⟩, by repeat (first | exact Drawn0.refl _ | apply Drawn0.step)⟩
                · rw [if_neg c17] at H
                  have c17b0 : ((ji13) == 0) = false := beq_eq_false_iff_ne.mpr c17
                  have c17b1 : ((ji13) != 0) = true := bne_iff_ne.mpr c17
                  (first | rw [c17b0] | (simp only [i64_w, i32_w]; rw [c17b0]) | skip)
                  have H' := Aside0.mk H
                  clear H
                  go_wp2
                  repeat (go_quiet (fail); try go_wp2)
                  go_meet
                  case rel => exact ⟨_, (false), (by first | rfl | (simp; done) | (simp [*]; done)), H', ⟨by have := HJ3.out; first | omega | exact Nat.le_refl _⟩, by repeat (first | exact Drawn0.refl _ | apply Drawn0.step)⟩
              case rest =>
                clear HC16
                try clear c1
                try clear p2
                try clear c3
                try clear c5
                try clear c5b0
                try clear c5b1
                try clear c6
                try clear p6
                try clear c7
                try clear c7b0
                try clear c7b1
                try clear c8
                try clear c8b0
                try clear c8b1
                try clear c10
                try clear c10b0
                try clear c10b1
                try clear c12
                try clear c12b0
                try clear c14
                try clear c14b0
                try clear c17
                try clear c17b0
                try clear c17b1
                try clear p2
                obtain ⟨kq, x53_15, rfl, HA, HJ15, ⟨mc15, rfl⟩⟩ := hcut
                cases kq with
                | zero => exact absurd HA.out (by simp [impl_product.j1])
                | succ kj15 =>
                  have H := HA.out
                  clear HA
                  simp only [impl_product.j1] at H
                  by_cases c18 : x53_15 = true
                  · subst c18
                    have H1 : ((impl_product.f kj15 (Go.bits .and .u32 a0 (((ji11) - 1) % 4294967296)) (Go.bits .and .u32 a1 (((ji11) - 1) % 4294967296)) ji9).bind fun t104 => (some t104)) = some r := by rw [if_pos rfl] at H; exact H
                    clear H
                    have H := H1
                    clear H1
                    replace H := Option.bind_eq_some_iff.mp H
                    obtain ⟨t104, A190, H⟩ := H
                    replace H : (some t104) = some r := H
                    have A19 := Aside0.mk A190
                    clear A190
                    obtain rfl := Option.some.inj H
                    go_wp2_with (first | (go_at_call 78; (with_reducible refine (ih kj15 (by have := HJ3.out; have := HJ15.out; omega) (Go.bits .and .u32 a0 (((ji11) - 1) % 4294967296)) (Go.bits .and .u32 a1 (((ji11) - 1) % 4294967296)) ji9 t104 _ A19.out).mono ?_); rintro e w' ⟨rfl, ⟨nd, rfl⟩⟩; (try first | exact ⟨rfl, _, World.drewN_drewN _ _ _⟩ | exact ⟨rfl, _, Eq.trans (World.drewN_drewN _ _ _) (congrArg (World.drewN _) (Nat.add_assoc _ _ _))⟩)))
                    repeat (go_quiet (first | (go_at_call 78; (with_reducible refine (ih kj15 (by have := HJ3.out; have := HJ15.out; omega) (Go.bits .and .u32 a0 (((ji11) - 1) % 4294967296)) (Go.bits .and .u32 a1 (((ji11) - 1) % 4294967296)) ji9 t104 _ A19.out).mono ?_); rintro e w' ⟨rfl, ⟨nd, rfl⟩⟩; (try first | exact ⟨rfl, _, World.drewN_drewN _ _ _⟩ | exact ⟨rfl, _, Eq.trans (World.drewN_drewN _ _ _) (congrArg (World.drewN _) (Nat.add_assoc _ _ _))⟩))); try go_wp2_with (first | (go_at_call 78; (with_reducible refine (ih kj15 (by have := HJ3.out; have := HJ15.out; omega) (Go.bits .and .u32 a0 (((ji11) - 1) % 4294967296)) (Go.bits .and .u32 a1 (((ji11) - 1) % 4294967296)) ji9 t104 _ A19.out).mono ?_); rintro e w' ⟨rfl, ⟨nd, rfl⟩⟩; (try first | exact ⟨rfl, _, World.drewN_drewN _ _ _⟩ | exact ⟨rfl, _, Eq.trans (World.drewN_drewN _ _ _) (congrArg (World.drewN _) (Nat.add_assoc _ _ _))⟩))))
                    go_ret
                    exact ⟨by first | rfl | (simp; done) | (simp only [← hji9, ← hji11, ← hji13, ← hji15] <;> (first | rfl | simp)) | (simp [*]; done), by repeat (first | exact Drawn0.refl _ | apply Drawn0.step)⟩
                  · replace c18 := Bool.eq_false_iff.mpr c18
                    subst c18
                    have H1 : ((impl_product.f kj15 ji13 ji15 ji9).bind fun t105 => ((impl_product.f kj15 (Go.bits .and .u32 a0 (((ji11) - 1) % 4294967296)) (Go.bits .and .u32 a1 (((ji11) - 1) % 4294967296)) ji9).bind fun t106 => ((impl_product.f kj15 (Go.bits .xor .u32 (Go.bits .and .u32 a0 (((ji11) - 1) % 4294967296)) ji13) (Go.bits .xor .u32 (Go.bits .and .u32 a1 (((ji11) - 1) % 4294967296)) ji15) ji9).bind fun t107 => (if 0 ≤ ji9 then ((impl_half.f kj15 t105 ji9).bind fun t108 => (some (Go.bits .xor .u32 (Go.bits .or .u32 (shl .u32 (Go.bits .xor .u32 t107 t106) ji9) t106) t108))) else (none))))) = some r := by rw [if_neg (show ¬ (false = true) by decide)] at H; exact H
                    clear H
                    have H := H1
                    clear H1
                    replace H := Option.bind_eq_some_iff.mp H
                    obtain ⟨t105, A200, H⟩ := H
                    replace H : ((impl_product.f kj15 (Go.bits .and .u32 a0 (((ji11) - 1) % 4294967296)) (Go.bits .and .u32 a1 (((ji11) - 1) % 4294967296)) ji9).bind fun t106 => ((impl_product.f kj15 (Go.bits .xor .u32 (Go.bits .and .u32 a0 (((ji11) - 1) % 4294967296)) ji13) (Go.bits .xor .u32 (Go.bits .and .u32 a1 (((ji11) - 1) % 4294967296)) ji15) ji9).bind fun t107 => (if 0 ≤ ji9 then ((impl_half.f kj15 t105 ji9).bind fun t108 => (some (Go.bits .xor .u32 (Go.bits .or .u32 (shl .u32 (Go.bits .xor .u32 t107 t106) ji9) t106) t108))) else (none)))) = some r := H
                    have A20 := Aside0.mk A200
                    clear A200
                    replace H := Option.bind_eq_some_iff.mp H
                    obtain ⟨t106, A210, H⟩ := H
                    replace H : ((impl_product.f kj15 (Go.bits .xor .u32 (Go.bits .and .u32 a0 (((ji11) - 1) % 4294967296)) ji13) (Go.bits .xor .u32 (Go.bits .and .u32 a1 (((ji11) - 1) % 4294967296)) ji15) ji9).bind fun t107 => (if 0 ≤ ji9 then ((impl_half.f kj15 t105 ji9).bind fun t108 => (some (Go.bits .xor .u32 (Go.bits .or .u32 (shl .u32 (Go.bits .xor .u32 t107 t106) ji9) t106) t108))) else (none))) = some r := H
                    have A21 := Aside0.mk A210
                    clear A210
                    replace H := Option.bind_eq_some_iff.mp H
                    obtain ⟨t107, A220, H⟩ := H
                    replace H : (if 0 ≤ ji9 then ((impl_half.f kj15 t105 ji9).bind fun t108 => (some (Go.bits .xor .u32 (Go.bits .or .u32 (shl .u32 (Go.bits .xor .u32 t107 t106) ji9) t106) t108))) else (none)) = some r := H
                    have A22 := Aside0.mk A220
                    clear A220
                    by_cases c23 : 0 ≤ ji9
                    · rw [if_pos c23] at H
                      have c23b0 := eq_true c23
                      have c23b1 : decide (0 ≤ ji9) = true := decide_eq_true c23
                      clear c23
                      obtain ⟨ji24, hji24⟩ : ∃ j_ : Int, (shl .u32 (Go.bits .xor .u32 t107 t106) ji9) = j_ := ⟨_, rfl⟩
                      replace H : ((impl_half.f kj15 t105 ji9).bind fun t108 => (some (Go.bits .xor .u32 (Go.bits .or .u32 (ji24) t106) t108))) = some r := by first | (rw [hji24] at H; exact H) | (simp only [hji24] at H ⊢; exact H)
                      (try rw [hji24] at A20)
                      (try rw [hji24] at A21)
                      (try rw [hji24] at A22)
                      have hji24_ : (IntKind.u32.wrap ((Go.bits .xor .u32 t107 t106) * 2 ^ min ji9.toNat 32)) = ji24 := hji24
                      have hji24z : ji9 ≤ 32 → (IntKind.u32.wrap ((Go.bits .xor .u32 t107 t106) * 2 ^ ji9.toNat)) = ji24 := shl_small hji24
                      replace H := Option.bind_eq_some_iff.mp H
                      obtain ⟨t108, A250, H⟩ := H
                      replace H : (some (Go.bits .xor .u32 (Go.bits .or .u32 (ji24) t106) t108)) = some r := H
                      have A25 := Aside0.mk A250
                      clear A250
                      obtain rfl := Option.some.inj H
                      go_wp2_with (first | (go_at_call 78; (with_reducible refine (ih kj15 (by have := HJ3.out; have := HJ15.out; omega) ji13 ji15 ji9 t105 _ A20.out).mono ?_); rintro e w' ⟨rfl, ⟨nd, rfl⟩⟩; (try first | exact ⟨rfl, _, World.drewN_drewN _ _ _⟩ | exact ⟨rfl, _, Eq.trans (World.drewN_drewN _ _ _) (congrArg (World.drewN _) (Nat.add_assoc _ _ _))⟩)) | (go_at_call 78; (with_reducible refine (ih kj15 (by have := HJ3.out; have := HJ15.out; omega) (Go.bits .and .u32 a0 (((ji11) - 1) % 4294967296)) (Go.bits .and .u32 a1 (((ji11) - 1) % 4294967296)) ji9 t106 _ A21.out).mono ?_); rintro e w' ⟨rfl, ⟨nd, rfl⟩⟩; (try first | exact ⟨rfl, _, World.drewN_drewN _ _ _⟩ | exact ⟨rfl, _, Eq.trans (World.drewN_drewN _ _ _) (congrArg (World.drewN _) (Nat.add_assoc _ _ _))⟩)) | (go_at_call 78; (with_reducible refine (ih kj15 (by have := HJ3.out; have := HJ15.out; omega) (Go.bits .xor .u32 (Go.bits .and .u32 a0 (((ji11) - 1) % 4294967296)) ji13) (Go.bits .xor .u32 (Go.bits .and .u32 a1 (((ji11) - 1) % 4294967296)) ji15) ji9 t107 _ A22.out).mono ?_); rintro e w' ⟨rfl, ⟨nd, rfl⟩⟩; (try first | exact ⟨rfl, _, World.drewN_drewN _ _ _⟩ | exact ⟨rfl, _, Eq.trans (World.drewN_drewN _ _ _) (congrArg (World.drewN _) (Nat.add_assoc _ _ _))⟩)) | (go_at_call 87; (with_reducible refine (impl_half.calls kj15 t105 ji9 t108 _ A25.out).mono ?_); rintro e w' ⟨rfl, ⟨nd, rfl⟩⟩; (try first | exact ⟨rfl, _, World.drewN_drewN _ _ _⟩ | exact ⟨rfl, _, Eq.trans (World.drewN_drewN _ _ _) (congrArg (World.drewN _) (Nat.add_assoc _ _ _))⟩)))
                      repeat (go_quiet (first | (go_at_call 78; (with_reducible refine (ih kj15 (by have := HJ3.out; have := HJ15.out; omega) ji13 ji15 ji9 t105 _ A20.out).mono ?_); rintro e w' ⟨rfl, ⟨nd, rfl⟩⟩; (try first | exact ⟨rfl, _, World.drewN_drewN _ _ _⟩ | exact ⟨rfl, _, Eq.trans (World.drewN_drewN _ _ _) (congrArg (World.drewN _) (Nat.add_assoc _ _ _))⟩)) | (go_at_call 78; (with_reducible refine (ih kj15 (by have := HJ3.out; have := HJ15.out; omega) (Go.bits .and .u32 a0 (((ji11) - 1) % 4294967296)) (Go.bits .and .u32 a1 (((ji11) - 1) % 4294967296)) ji9 t106 _ A21.out).mono ?_); rintro e w' ⟨rfl, ⟨nd, rfl⟩⟩; (try first | exact ⟨rfl, _, World.drewN_drewN _ _ _⟩ | exact ⟨rfl, _, Eq.trans (World.drewN_drewN _ _ _) (congrArg (World.drewN _) (Nat.add_assoc _ _ _))⟩)) | (go_at_call 78; (with_reducible refine (ih kj15 (by have := HJ3.out; have := HJ15.out; omega) (Go.bits .xor .u32 (Go.bits .and .u32 a0 (((ji11) - 1) % 4294967296)) ji13) (Go.bits .xor .u32 (Go.bits .and .u32 a1 (((ji11) - 1) % 4294967296)) ji15) ji9 t107 _ A22.out).mono ?_); rintro e w' ⟨rfl, ⟨nd, rfl⟩⟩; (try first | exact ⟨rfl, _, World.drewN_drewN _ _ _⟩ | exact ⟨rfl, _, Eq.trans (World.drewN_drewN _ _ _) (congrArg (World.drewN _) (Nat.add_assoc _ _ _))⟩)) | (go_at_call 87; (with_reducible refine (impl_half.calls kj15 t105 ji9 t108 _ A25.out).mono ?_); rintro e w' ⟨rfl, ⟨nd, rfl⟩⟩; (try first | exact ⟨rfl, _, World.drewN_drewN _ _ _⟩ | exact ⟨rfl, _, Eq.trans (World.drewN_drewN _ _ _) (congrArg (World.drewN _) (Nat.add_assoc _ _ _))⟩))); try go_wp2_with (first | (go_at_call 78; (with_reducible refine (ih kj15 (by have := HJ3.out; have := HJ15.out; omega) ji13 ji15 ji9 t105 _ A20.out).mono ?_); rintro e w' ⟨rfl, ⟨nd, rfl⟩⟩; (try first | exact ⟨rfl, _, World.drewN_drewN _ _ _⟩ | exact ⟨rfl, _, Eq.trans (World.drewN_drewN _ _ _) (congrArg (World.drewN _) (Nat.add_assoc _ _ _))⟩)) | (go_at_call 78; (with_reducible refine (ih kj15 (by have := HJ3.out; have := HJ15.out; omega) (Go.bits .and .u32 a0 (((ji11) - 1) % 4294967296)) (Go.bits .and .u32 a1 (((ji11) - 1) % 4294967296)) ji9 t106 _ A21.out).mono ?_); rintro e w' ⟨rfl, ⟨nd, rfl⟩⟩; (try first | exact ⟨rfl, _, World.drewN_drewN _ _ _⟩ | exact ⟨rfl, _, Eq.trans (World.drewN_drewN _ _ _) (congrArg (World.drewN _) (Nat.add_assoc _ _ _))⟩)) | (go_at_call 78; (with_reducible refine (ih kj15 (by have := HJ3.out; have := HJ15.out; omega) (Go.bits .xor .u32 (Go.bits .and .u32 a0 (((ji11) - 1) % 4294967296)) ji13) (Go.bits .xor .u32 (Go.bits .and .u32 a1 (((ji11) - 1) % 4294967296)) ji15) ji9 t107 _ A22.out).mono ?_); rintro e w' ⟨rfl, ⟨nd, rfl⟩⟩; (try first | exact ⟨rfl, _, World.drewN_drewN _ _ _⟩ | exact ⟨rfl, _, Eq.trans (World.drewN_drewN _ _ _) (congrArg (World.drewN _) (Nat.add_assoc _ _ _))⟩)) | (go_at_call 87; (with_reducible refine (impl_half.calls kj15 t105 ji9 t108 _ A25.out).mono ?_); rintro e w' ⟨rfl, ⟨nd, rfl⟩⟩; (try first | exact ⟨rfl, _, World.drewN_drewN _ _ _⟩ | exact ⟨rfl, _, Eq.trans (World.drewN_drewN _ _ _) (congrArg (World.drewN _) (Nat.add_assoc _ _ _))⟩))))
                      go_ret
                      exact ⟨by first | rfl | (simp; done) | (simp only [← hji9, ← hji11, ← hji13, ← hji15, ← hji24] <;> (first | rfl | simp)) | (simp [*]; done), by repeat (first | exact Drawn0.refl _ | apply Drawn0.step)⟩
                    · rw [if_neg c23] at H
                      exact absurd H (by simp)
            · rw [if_neg c10] at H
              exact absurd H (by simp)

/-! ### impl_times: function 46 -/
def impl_times.f (k : Nat) (a0 : Int) (a1 : Int) : Option (Int) := (impl_product.f k ((a0) % 4294967296) ((a1) % 4294967296) 16).bind fun t109 => (some (IntKind.u16.wrap (t109)))
theorem impl_times.mono : ∀ a0 a1 k, LeO (impl_times.f k a0 a1) (impl_times.f (k + 1) a0 a1) := by
  intro a0 a1 k
  unfold impl_times.f
  repeat' first
      | (with_reducible exact impl_product.mono _ _ _ _)
      | (with_reducible exact LeO.refl _)
      | (with_reducible exact LeO.none _)
      | (with_reducible refine LeO.ite ?_ ?_)
      | (with_reducible refine LeO.bind ?_ (fun _ => ?_))
      | exact impl_product.mono _ _ _ _
      | exact LeO.none _
      | refine LeO.ite ?_ ?_
      | refine LeO.bind ?_ (fun _ => ?_)
set_option maxHeartbeats 8000000 in
set_option maxRecDepth 100000 in
theorem impl_times.calls (k : Nat) (a0 : Int) (a1 : Int) (r : Int) (w : World) (h : impl_times.f k a0 a1 = some r) :
    Calls Try.prog 46 #[.int .u16 a0, .int .u16 a1] w fun e w' => e = .returned (.int .u16 r) ∧ Drawn0 w w' := by
  have H : ((impl_product.f k ((a0) % 4294967296) ((a1) % 4294967296) 16).bind fun t109 => (some (IntKind.u16.wrap (t109)))) = some r := h
  clear h
  replace H := Option.bind_eq_some_iff.mp H
  obtain ⟨t109, A30, H⟩ := H
  replace H : (some (IntKind.u16.wrap (t109))) = some r := H
  have A3 := Aside0.mk A30
  clear A30
  obtain rfl := Option.some.inj H
  go_enter Try.func46, Try.ntmps46
  go_wp2_with (first | ((with_reducible refine gate_callee (f := 78) rfl ?_); refine goesL_ (some 9) rfl rfl Try.func78 (by kernel_rfl) rfl #[.int .u32 ((a0) % 4294967296), .int .u32 ((a1) % 4294967296), .int .i64 16] rfl (by (try simp only [List.map_toArray, List.map_cons, List.map_nil]); first | done | rfl | (simp only [List.length_drop, List.length_take]; rfl)) ?_; (with_reducible refine (impl_product.calls k ((a0) % 4294967296) ((a1) % 4294967296) 16 t109 _ A3.out).mono ?_); rintro e w' ⟨rfl, ⟨nd, rfl⟩⟩; refine ⟨_, rfl, ?_⟩))
  go_ret
  exact ⟨by first | rfl | (simp; done) | (simp [*]; done), by repeat (first | exact Drawn0.refl _ | apply Drawn0.step)⟩

end Go.Proofs.Ythjbeglmdifhdaa.RTimes
