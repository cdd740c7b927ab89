-- WRITTEN BY A PROGRAM OF THIS SESSION over the walks that the kit prints; contracts of functions that the print does not take are this session's own
import Derived.Test.YtabdpdnofljkcaaRFnExactLeastApartOfx0
import Derived.Test.YtabdpdnofljkcaaRFnExactLeastApartOfx1
namespace Go.Proofs.Ytabdpdnofljkcaa.RFnExactLeastApartOf
open Go.RowKit Go.Proofs.Ytabdpdnofljkcaa.Given Go.Proofs.YtabdpdnofljkcaaW.PrintWords Go.Proofs.YtabdpdnofljkcaaW.PrintLast Go.Proofs.YtabdpdnofljkcaaW.PrintMore
attribute [local go_sem] max2_int min2_int max_two min_two max_three min_three max_four min_four   -- for this text's walks alone
set_option linter.unusedVariables false
set_option linter.unusedSimpArgs false

/-! ### spec_l06Word: function 59 -/
def spec_l06Word.l0 : Nat → Int → List Int → Int → Option (Bool)
  | 0, _, _, _ => none
  | k + 1, x0, x1, x5 => if x5 < (x1.length : Int) then (if 0 ≤ x5 then (if (wrap64 (rd x1 x5)) ≥ x0 then (some false) else (spec_l06Word.l0 k x0 x1 (wrap64 (x5 + 1)))) else (none)) else ((spec_l00In.f (x1.length : Int) 1 7).bind fun t122 => (some t122))
def spec_l06Word.f (k : Nat) (a0 : Int) (l1 : List Int) : Option (Bool) := spec_l06Word.l0 k a0 l1 0
theorem spec_l06Word.mono_l : ∀ k, (∀ y0 y1 y2, LeO (spec_l06Word.l0 k y0 y1 y2) (spec_l06Word.l0 (k + 1) y0 y1 y2))
  | 0 => fun _ _ _ r h => by simp [spec_l06Word.l0] at h
  | k + 1 => by
    have ih0 := spec_l06Word.mono_l k
    · intro y0 y1 y2
      unfold spec_l06Word.l0
      repeat' first
      | (with_reducible exact ih0 _ _ _)
      | (with_reducible exact LeO.refl _)
      | (with_reducible exact LeO.none _)
      | (with_reducible refine LeO.ite ?_ ?_)
      | (with_reducible refine LeO.bind ?_ (fun _ => ?_))
      | exact ih0 _ _ _
      | exact LeO.none _
      | refine LeO.ite ?_ ?_
      | refine LeO.bind ?_ (fun _ => ?_)
theorem spec_l06Word.mono : ∀ a0 a1 k, LeO (spec_l06Word.f k a0 a1) (spec_l06Word.f (k + 1) a0 a1) := by
  intro a0 a1 k
  have ih0 := spec_l06Word.mono_l k
  unfold spec_l06Word.f
  repeat' first
      | (with_reducible exact ih0 _ _ _)
      | (with_reducible exact LeO.refl _)
      | (with_reducible exact LeO.none _)
      | (with_reducible refine LeO.ite ?_ ?_)
      | (with_reducible refine LeO.bind ?_ (fun _ => ?_))
      | exact ih0 _ _ _
      | exact LeO.none _
      | refine LeO.ite ?_ ?_
      | refine LeO.bind ?_ (fun _ => ?_)
set_option maxHeartbeats 8000000 in
set_option maxRecDepth 100000 in
theorem spec_l06Word.calls (k : Nat) (a0 : Int) (A1 : Option Addr) (c1 : Nat) (l1 : List Int) (r : Bool) (w : World) (hr1 : Kd.C (Kd.int .u16) w A1 l1.length l1) (hc1 : l1.length ≤ c1) (h : spec_l06Word.f k a0 l1 = some r) :
    Calls Try.prog 59 #[.int .i64 a0, .slice A1 l1.length c1] w fun e w' => e = .returned (.bool r) ∧ Drawn0 w w' := by
  have HR1 := Aside0.mk hr1
  have HC1 := Aside0.mk hc1
  clear hr1 hc1
  have H : (spec_l06Word.l0 k a0 l1 0) = some r := h
  clear h
  have H' := Aside0.mk H
  clear H
  go_enter Try.func59, Try.ntmps59
  go_wp2
  go_loopg [5] k (fun kq v5 w' => ∃ (x5_1 : Int), v5 = .int .i64 x5_1 ∧ Aside0 (spec_l06Word.l0 kq a0 l1 x5_1 = some r) ∧ Aside0 (kq ≤ k) ∧ Drawn0 w w')
  case atStart => exact ⟨(0), (by first | rfl | (simp; done) | (simp [*]; done)), H', ⟨Nat.le_refl _⟩, by repeat (first | exact Drawn0.refl _ | apply Drawn0.step)⟩
  case round =>
    clear H'
    try clear c1
    try clear p2
    obtain ⟨x5_1, rfl, HA, HK1, ⟨m1, rfl⟩⟩ := hrel
    cases gk with
    | zero => exact absurd HA.out (by simp [spec_l06Word.l0])
    | succ k1 =>
      have H := HA.out
      clear HA
      simp only [spec_l06Word.l0] at H
      by_cases c3 : x5_1 < (l1.length : Int)
      · rw [if_pos c3] at H
        have c3b0 : decide (x5_1 < (l1.length : Int)) = true := decide_eq_true c3
        clear c3
        by_cases c4 : 0 ≤ x5_1
        · rw [if_pos c4] at H
          have c4b0 : decide (0 ≤ x5_1) = true := decide_eq_true c4
          clear c4
          by_cases c5 : (wrap64 (rd l1 x5_1)) ≥ a0
          · rw [if_pos c5] at H
            have c5b0 : decide (a0 ≤ (wrap64 (rd l1 x5_1))) = true := decide_eq_true c5
            clear c5
            obtain rfl := Option.some.inj H
            have p121 : 0 ≤ (x5_1 : Int) := of_decide_eq_true (by first | (with_reducible assumption) | assumption)
            have q121 : x5_1 < (l1.length : Int) := of_decide_eq_true (by first | (with_reducible assumption) | assumption)
            obtain ⟨ad121, e121, hx121_0⟩ := Kd.at_int HR1.out x5_1 p121 q121
            cases e121
            replace p121 := eq_true p121
            replace q121 := eq_true q121
            go_wp2
            go_ret
            exact ⟨by first | rfl | (simp; done) | (simp [*]; done), by repeat (first | exact Drawn0.refl _ | apply Drawn0.step)⟩
          · rw [if_neg c5] at H
            have c5b0 : decide (a0 ≤ (wrap64 (rd l1 x5_1))) = false := decide_eq_false c5
            clear c5
            have H' := Aside0.mk H
            clear H
            have p121 : 0 ≤ (x5_1 : Int) := of_decide_eq_true (by first | (with_reducible assumption) | assumption)
            have q121 : x5_1 < (l1.length : Int) := of_decide_eq_true (by first | (with_reducible assumption) | assumption)
            obtain ⟨ad121, e121, hx121_0⟩ := Kd.at_int HR1.out x5_1 p121 q121
            cases e121
            replace p121 := eq_true p121
            replace q121 := eq_true q121
            go_wp2
            go_roundg k1
            case measure => have := HK1.out; omega
            case rel => exact ⟨(wrap64 (x5_1 + 1)), (by first | rfl | (simp; done) | (simp [*]; done)), H', ⟨by have := HK1.out; omega⟩, by repeat (first | exact Drawn0.refl _ | apply Drawn0.step)⟩
        · rw [if_neg c4] at H
          exact absurd H (by simp)
      · rw [if_neg c3] at H
        have c3b0 : decide (x5_1 < (l1.length : Int)) = false := decide_eq_false c3
        clear c3
        replace H := Option.bind_eq_some_iff.mp H
        obtain ⟨t122, A60, H⟩ := H
        replace H : (some t122) = some r := H
        have A6 := Aside0.mk A60
        clear A60
        obtain rfl := Option.some.inj H
        go_wp2_with (first | ((with_reducible refine gate_callee (f := 37) rfl ?_); refine goesL_ (some 21) rfl rfl Try.func37 (by kernel_rfl) rfl #[.int .i64 (l1.length : Int), .int .i64 1, .int .i64 7] rfl (by (try simp only [List.map_toArray, List.map_cons, List.map_nil]); first | done | rfl | (simp only [List.length_drop, List.length_take]; rfl)) ?_; (with_reducible refine (spec_l00In.calls (l1.length : Int) 1 7 t122 _ A6.out).mono ?_); rintro e w' ⟨rfl, ⟨nd, rfl⟩⟩; refine ⟨_, rfl, ?_⟩))
        go_ret
        exact ⟨by first | rfl | (simp; done) | (simp [*]; done), by repeat (first | exact Drawn0.refl _ | apply Drawn0.step)⟩

/-! ### spec_l06Listed: function 32 -/
def spec_l06Listed.l0 : Nat → Int → List (List Int) → Int → Option (Int)
  | 0, _, _, _ => none
  | k + 1, x0, x1, x5 => if x5 < (x1.length : Int) then (if 0 ≤ x5 then ((spec_l06Word.f k x0 (rd_L2 x1 x5)).bind fun t125 => (if t125 = true then (if 0 < (x1.length : Int) then (if ((rd_L2 x1 x5).length : Int) = ((rd_L2 x1 0).length : Int) then (spec_l06Listed.l0 k x0 x1 (wrap64 (x5 + 1))) else (some 1)) else (none)) else (some 1))) else (none)) else (if (x1.length : Int) > 300 then (some 3) else (some 0))
def spec_l06Listed.f (k : Nat) (a0 : Int) (l1 : List (List Int)) : Option (Int) := (spec_l06Base.f a0).bind fun t123 => (if t123 = true then (spec_l06Listed.l0 k a0 l1 0) else (some 2))
theorem spec_l06Listed.mono_l : ∀ k, (∀ y0 y1 y2, LeO (spec_l06Listed.l0 k y0 y1 y2) (spec_l06Listed.l0 (k + 1) y0 y1 y2))
  | 0 => fun _ _ _ r h => by simp [spec_l06Listed.l0] at h
  | k + 1 => by
    have ih0 := spec_l06Listed.mono_l k
    · intro y0 y1 y2
      unfold spec_l06Listed.l0
      repeat' first
      | (with_reducible exact ih0 _ _ _)
      | (with_reducible exact spec_l06Word.mono _ _ _)
      | (with_reducible exact LeO.refl _)
      | (with_reducible exact LeO.none _)
      | (with_reducible refine LeO.ite ?_ ?_)
      | (with_reducible refine LeO.bind ?_ (fun _ => ?_))
      | exact ih0 _ _ _
      | exact spec_l06Word.mono _ _ _
      | exact LeO.none _
      | refine LeO.ite ?_ ?_
      | refine LeO.bind ?_ (fun _ => ?_)
theorem spec_l06Listed.mono : ∀ a0 a1 k, LeO (spec_l06Listed.f k a0 a1) (spec_l06Listed.f (k + 1) a0 a1) := by
  intro a0 a1 k
  have ih0 := spec_l06Listed.mono_l k
  unfold spec_l06Listed.f
  repeat' first
      | (with_reducible exact ih0 _ _ _)
      | (with_reducible exact spec_l06Word.mono _ _ _)
      | (with_reducible exact LeO.refl _)
      | (with_reducible exact LeO.none _)
      | (with_reducible refine LeO.ite ?_ ?_)
      | (with_reducible refine LeO.bind ?_ (fun _ => ?_))
      | exact ih0 _ _ _
      | exact spec_l06Word.mono _ _ _
      | exact LeO.none _
      | refine LeO.ite ?_ ?_
      | refine LeO.bind ?_ (fun _ => ?_)
set_option maxHeartbeats 8000000 in
set_option maxRecDepth 100000 in
theorem spec_l06Listed.calls (k : Nat) (a0 : Int) (A1 : Option Addr) (c1 : Nat) (l1 : List (List Int)) (r : Int) (w : World) (hr1 : Kd.C (Kd.slice 64 (Kd.int .u16)) w A1 l1.length l1) (hc1 : l1.length ≤ c1) (h : spec_l06Listed.f k a0 l1 = some r) :
    Calls Try.prog 32 #[.int .i64 a0, .slice A1 l1.length c1] w fun e w' => e = .returned (.int .i64 r) ∧ Drawn0 w w' := by
  have HR1 := Aside0.mk hr1
  have HC1 := Aside0.mk hc1
  clear hr1 hc1
  have H : ((spec_l06Base.f a0).bind fun t123 => (if t123 = true then (spec_l06Listed.l0 k a0 l1 0) else (some 2))) = some r := h
  clear h
  replace H := Option.bind_eq_some_iff.mp H
  obtain ⟨t123, A30, H⟩ := H
  replace H : (if t123 = true then (spec_l06Listed.l0 k a0 l1 0) else (some 2)) = some r := H
  have A3 := Aside0.mk A30
  clear A30
  by_cases c4 : t123 = true
  · subst c4
    have H1 : (spec_l06Listed.l0 k a0 l1 0) = some r := by rw [if_pos rfl] at H; exact H
    clear H
    have H := H1
    clear H1
    have H' := Aside0.mk H
    clear H
    go_enter Try.func32, Try.ntmps32
    go_wp2_with (first | (go_at_call 36; (with_reducible refine (spec_l06Base.calls a0 true _ A3.out).mono ?_); rintro e w' ⟨rfl, ⟨nd, rfl⟩⟩; (try first | exact ⟨rfl, _, World.drewN_drewN _ _ _⟩ | exact ⟨rfl, _, Eq.trans (World.drewN_drewN _ _ _) (congrArg (World.drewN _) (Nat.add_assoc _ _ _))⟩)))
    repeat (go_quiet (first | (go_at_call 36; (with_reducible refine (spec_l06Base.calls a0 true _ A3.out).mono ?_); rintro e w' ⟨rfl, ⟨nd, rfl⟩⟩; (try first | exact ⟨rfl, _, World.drewN_drewN _ _ _⟩ | exact ⟨rfl, _, Eq.trans (World.drewN_drewN _ _ _) (congrArg (World.drewN _) (Nat.add_assoc _ _ _))⟩))); try go_wp2_with (first | (go_at_call 36; (with_reducible refine (spec_l06Base.calls a0 true _ A3.out).mono ?_); rintro e w' ⟨rfl, ⟨nd, rfl⟩⟩; (try first | exact ⟨rfl, _, World.drewN_drewN _ _ _⟩ | exact ⟨rfl, _, Eq.trans (World.drewN_drewN _ _ _) (congrArg (World.drewN _) (Nat.add_assoc _ _ _))⟩))))
    go_loopg [5] k (fun kq v5 w' => ∃ (x5_1 : Int), v5 = .int .i64 x5_1 ∧ Aside0 (spec_l06Listed.l0 kq a0 l1 x5_1 = some r) ∧ Aside0 (kq ≤ k) ∧ Drawn0 w w')
    case atStart => exact ⟨(0), (by first | rfl | (simp; done) | (simp [*]; done)), H', ⟨Nat.le_refl _⟩, by repeat (first | exact Drawn0.refl _ | apply Drawn0.step)⟩
    case round =>
      clear H'
      try clear c1
      try clear p2
      try clear c3
      try clear c4
      obtain ⟨x5_1, rfl, HA, HK1, ⟨m1, rfl⟩⟩ := hrel
      cases gk with
      | zero => exact absurd HA.out (by simp [spec_l06Listed.l0])
      | succ k1 =>
        have H := HA.out
        clear HA
        simp only [spec_l06Listed.l0] at H
        by_cases c5 : x5_1 < (l1.length : Int)
        · rw [if_pos c5] at H
          have c5b0 : decide (x5_1 < (l1.length : Int)) = true := decide_eq_true c5
          clear c5
          by_cases c6 : 0 ≤ x5_1
          · rw [if_pos c6] at H
            have c6b0 : decide (0 ≤ x5_1) = true := decide_eq_true c6
            clear c6
            replace H := Option.bind_eq_some_iff.mp H
            obtain ⟨t125, A70, H⟩ := H
            replace H : (if t125 = true then (if 0 < (l1.length : Int) then (if ((rd_L2 l1 x5_1).length : Int) = ((rd_L2 l1 0).length : Int) then (spec_l06Listed.l0 k1 a0 l1 (wrap64 (x5_1 + 1))) else (some 1)) else (none)) else (some 1)) = some r := H
            have A7 := Aside0.mk A70
            clear A70
            by_cases c8 : t125 = true
            · subst c8
              have H1 : (if 0 < (l1.length : Int) then (if ((rd_L2 l1 x5_1).length : Int) = ((rd_L2 l1 0).length : Int) then (spec_l06Listed.l0 k1 a0 l1 (wrap64 (x5_1 + 1))) else (some 1)) else (none)) = some r := by rw [if_pos rfl] at H; exact H
              clear H
              have H := H1
              clear H1
              by_cases c9 : 0 < (l1.length : Int)
              · rw [if_pos c9] at H
                have c9b0 : decide (0 < (l1.length : Int)) = true := decide_eq_true c9
                have c9b1 : decide (0 < l1.length) = true := decide_eq_true (by omega)
                clear c9
                by_cases c10 : ((rd_L2 l1 x5_1).length : Int) = ((rd_L2 l1 0).length : Int)
                · rw [if_pos c10] at H
                  have c10b0 : (((rd_L2 l1 x5_1).length : Int) == ((rd_L2 l1 0).length : Int)) = true := beq_iff_eq.mpr c10
                  have c10b1 : (((rd_L2 l1 x5_1).length : Int) != ((rd_L2 l1 0).length : Int)) = false := bne_eq_false_iff_eq.mpr c10
                  have c10b2 : ((rd_L2 l1 x5_1).length == (rd_L2 l1 0).length) = true := by first | simpa using c10 | (simp at c10 ⊢; omega)
                  clear c10
                  have H' := Aside0.mk H
                  clear H
                  have p124 : 0 ≤ (x5_1 : Int) := of_decide_eq_true (by first | (with_reducible assumption) | assumption)
                  have q124 : x5_1 < (l1.length : Int) := of_decide_eq_true (by first | (with_reducible assumption) | assumption)
                  obtain ⟨ad124, A124_0, c124_0, e124, hx124_0, hl124_0, hi124_0⟩ := at_L2 HR1.out x5_1 p124 q124
                  cases e124
                  have HR124_0 := Aside0.mk hi124_0
                  have HC124_0 := Aside0.mk hl124_0
                  clear hi124_0 hl124_0
                  replace p124 := eq_true p124
                  replace q124 := eq_true q124
                  go_wp2_with (first | (go_at_call 59; (with_reducible refine (spec_l06Word.calls k1 a0 _ _ (rd_L2 l1 x5_1) true _ ?side1 ?side2 A7.out).mono ?_); (case side1 => repeat (first | exact HR124_0.out | (with_reducible refine Kd.C_alloc ?_ _) | (with_reducible refine Kd.C_drewN ?_ _) | (with_reducible refine Kd.C_drew ?_))); (case side2 => exact HC124_0.out); rintro e w' ⟨rfl, ⟨nd, rfl⟩⟩; (try first | exact ⟨rfl, _, World.drewN_drewN _ _ _⟩ | exact ⟨rfl, _, Eq.trans (World.drewN_drewN _ _ _) (congrArg (World.drewN _) (Nat.add_assoc _ _ _))⟩); have p126 : 0 ≤ (x5_1 : Int) := of_decide_eq_true (by first | (with_reducible assumption) | assumption); have q126 : x5_1 < (l1.length : Int) := of_decide_eq_true (by first | (with_reducible assumption) | assumption); obtain ⟨ad126, A126_0, c126_0, e126, hx126_0, hl126_0, hi126_0⟩ := at_L2 HR1.out x5_1 p126 q126; obtain rfl : ad124 = ad126 := (by injection e126); have HR126_0 := Aside0.mk hi126_0; have HC126_0 := Aside0.mk hl126_0; clear hi126_0 hl126_0; replace p126 := eq_true p126; replace q126 := eq_true q126; have ea_ := Option.some.inj (hx124_0.symm.trans hx126_0); injection ea_ with ea_ en_ ec_; subst ea_; subst ec_; clear en_; have p127 : 0 ≤ (0 : Int) := (by omega); have q127 : 0 < (l1.length : Int) := of_decide_eq_true (by first | (with_reducible assumption) | assumption); obtain ⟨ad127, A127_0, c127_0, e127, hx127_0, hl127_0, hi127_0⟩ := at_L2 HR1.out 0 p127 q127; obtain rfl : ad124 = ad127 := (by injection e127); have qi127 : (0 < l1.length) = True := eq_true (by omega); (try rw [show ((0 : Int)).toNat = 0 from rfl] at hx127_0); (try rw [Addr.add_zero'] at hx127_0); have HR127_0 := Aside0.mk hi127_0; have HC127_0 := Aside0.mk hl127_0; clear hi127_0 hl127_0; replace p127 := eq_true p127; replace q127 := eq_true q127))
                  repeat (go_quiet (first | (go_at_call 59; (with_reducible refine (spec_l06Word.calls k1 a0 _ _ (rd_L2 l1 x5_1) true _ ?side1 ?side2 A7.out).mono ?_); (case side1 => repeat (first | exact HR124_0.out | (with_reducible refine Kd.C_alloc ?_ _) | (with_reducible refine Kd.C_drewN ?_ _) | (with_reducible refine Kd.C_drew ?_))); (case side2 => exact HC124_0.out); rintro e w' ⟨rfl, ⟨nd, rfl⟩⟩; (try first | exact ⟨rfl, _, World.drewN_drewN _ _ _⟩ | exact ⟨rfl, _, Eq.trans (World.drewN_drewN _ _ _) (congrArg (World.drewN _) (Nat.add_assoc _ _ _))⟩); have p126 : 0 ≤ (x5_1 : Int) := of_decide_eq_true (by first | (with_reducible assumption) | assumption); have q126 : x5_1 < (l1.length : Int) := of_decide_eq_true (by first | (with_reducible assumption) | assumption); obtain ⟨ad126, A126_0, c126_0, e126, hx126_0, hl126_0, hi126_0⟩ := at_L2 HR1.out x5_1 p126 q126; obtain rfl : ad124 = ad126 := (by injection e126); have HR126_0 := Aside0.mk hi126_0; have HC126_0 := Aside0.mk hl126_0; clear hi126_0 hl126_0; replace p126 := eq_true p126; replace q126 := eq_true q126; have ea_ := Option.some.inj (hx124_0.symm.trans hx126_0); injection ea_ with ea_ en_ ec_; subst ea_; subst ec_; clear en_; have p127 : 0 ≤ (0 : Int) := (by omega); have q127 : 0 < (l1.length : Int) := of_decide_eq_true (by first | (with_reducible assumption) | assumption); obtain ⟨ad127, A127_0, c127_0, e127, hx127_0, hl127_0, hi127_0⟩ := at_L2 HR1.out 0 p127 q127; obtain rfl : ad124 = ad127 := (by injection e127); have qi127 : (0 < l1.length) = True := eq_true (by omega); (try rw [show ((0 : Int)).toNat = 0 from rfl] at hx127_0); (try rw [Addr.add_zero'] at hx127_0); have HR127_0 := Aside0.mk hi127_0; have HC127_0 := Aside0.mk hl127_0; clear hi127_0 hl127_0; replace p127 := eq_true p127; replace q127 := eq_true q127)); try go_wp2_with (first | (go_at_call 59; (with_reducible refine (spec_l06Word.calls k1 a0 _ _ (rd_L2 l1 x5_1) true _ ?side1 ?side2 A7.out).mono ?_); (case side1 => repeat (first | exact HR124_0.out | (with_reducible refine Kd.C_alloc ?_ _) | (with_reducible refine Kd.C_drewN ?_ _) | (with_reducible refine Kd.C_drew ?_))); (case side2 => exact HC124_0.out); rintro e w' ⟨rfl, ⟨nd, rfl⟩⟩; (try first | exact ⟨rfl, _, World.drewN_drewN _ _ _⟩ | exact ⟨rfl, _, Eq.trans (World.drewN_drewN _ _ _) (congrArg (World.drewN _) (Nat.add_assoc _ _ _))⟩); have p126 : 0 ≤ (x5_1 : Int) := of_decide_eq_true (by first | (with_reducible assumption) | assumption); have q126 : x5_1 < (l1.length : Int) := of_decide_eq_true (by first | (with_reducible assumption) | assumption); obtain ⟨ad126, A126_0, c126_0, e126, hx126_0, hl126_0, hi126_0⟩ := at_L2 HR1.out x5_1 p126 q126; obtain rfl : ad124 = ad126 := (by injection e126); have HR126_0 := Aside0.mk hi126_0; have HC126_0 := Aside0.mk hl126_0; clear hi126_0 hl126_0; replace p126 := eq_true p126; replace q126 := eq_true q126; have ea_ := Option.some.inj (hx124_0.symm.trans hx126_0); injection ea_ with ea_ en_ ec_; subst ea_; subst ec_; clear en_; have p127 : 0 ≤ (0 : Int) := (by omega); have q127 : 0 < (l1.length : Int) := of_decide_eq_true (by first | (with_reducible assumption) | assumption); obtain ⟨ad127, A127_0, c127_0, e127, hx127_0, hl127_0, hi127_0⟩ := at_L2 HR1.out 0 p127 q127; obtain rfl : ad124 = ad127 := (by injection e127); have qi127 : (0 < l1.length) = True := eq_true (by omega); (try rw [show ((0 : Int)).toNat = 0 from rfl] at hx127_0); (try rw [Addr.add_zero'] at hx127_0); have HR127_0 := Aside0.mk hi127_0; have HC127_0 := Aside0.mk hl127_0; clear hi127_0 hl127_0; replace p127 := eq_true p127; replace q127 := eq_true q127)))
                  go_roundg k1
                  case measure => have := HK1.out; omega
                  case rel => exact ⟨(wrap64 (x5_1 + 1)), (by first | rfl | (simp; done) | (simp [*]; done)), H', ⟨by have := HK1.out; omega⟩, by repeat (first | exact Drawn0.refl _ | apply Drawn0.step)⟩
                · rw [if_neg c10] at H
                  have c10b0 : (((rd_L2 l1 x5_1).length : Int) == ((rd_L2 l1 0).length : Int)) = false := beq_eq_false_iff_ne.mpr c10
                  have c10b1 : (((rd_L2 l1 x5_1).length : Int) != ((rd_L2 l1 0).length : Int)) = true := bne_iff_ne.mpr c10
                  have c10b2 : ((rd_L2 l1 x5_1).length == (rd_L2 l1 0).length) = false := by first | simpa using c10 | (simp at c10 ⊢; omega)
                  obtain rfl := Option.some.inj H
                  have p124 : 0 ≤ (x5_1 : Int) := of_decide_eq_true (by first | (with_reducible assumption) | assumption)
                  have q124 : x5_1 < (l1.length : Int) := of_decide_eq_true (by first | (with_reducible assumption) | assumption)
                  obtain ⟨ad124, A124_0, c124_0, e124, hx124_0, hl124_0, hi124_0⟩ := at_L2 HR1.out x5_1 p124 q124
                  cases e124
                  have HR124_0 := Aside0.mk hi124_0
                  have HC124_0 := Aside0.mk hl124_0
                  clear hi124_0 hl124_0
                  replace p124 := eq_true p124
                  replace q124 := eq_true q124
                  go_wp2_with (first | (go_at_call 59; (with_reducible refine (spec_l06Word.calls k1 a0 _ _ (rd_L2 l1 x5_1) true _ ?side1 ?side2 A7.out).mono ?_); (case side1 => repeat (first | exact HR124_0.out | (with_reducible refine Kd.C_alloc ?_ _) | (with_reducible refine Kd.C_drewN ?_ _) | (with_reducible refine Kd.C_drew ?_))); (case side2 => exact HC124_0.out); rintro e w' ⟨rfl, ⟨nd, rfl⟩⟩; (try first | exact ⟨rfl, _, World.drewN_drewN _ _ _⟩ | exact ⟨rfl, _, Eq.trans (World.drewN_drewN _ _ _) (congrArg (World.drewN _) (Nat.add_assoc _ _ _))⟩); have p126 : 0 ≤ (x5_1 : Int) := of_decide_eq_true (by first | (with_reducible assumption) | assumption); have q126 : x5_1 < (l1.length : Int) := of_decide_eq_true (by first | (with_reducible assumption) | assumption); obtain ⟨ad126, A126_0, c126_0, e126, hx126_0, hl126_0, hi126_0⟩ := at_L2 HR1.out x5_1 p126 q126; obtain rfl : ad124 = ad126 := (by injection e126); have HR126_0 := Aside0.mk hi126_0; have HC126_0 := Aside0.mk hl126_0; clear hi126_0 hl126_0; replace p126 := eq_true p126; replace q126 := eq_true q126; have ea_ := Option.some.inj (hx124_0.symm.trans hx126_0); injection ea_ with ea_ en_ ec_; subst ea_; subst ec_; clear en_; have p127 : 0 ≤ (0 : Int) := (by omega); have q127 : 0 < (l1.length : Int) := of_decide_eq_true (by first | (with_reducible assumption) | assumption); obtain ⟨ad127, A127_0, c127_0, e127, hx127_0, hl127_0, hi127_0⟩ := at_L2 HR1.out 0 p127 q127; obtain rfl : ad124 = ad127 := (by injection e127); have qi127 : (0 < l1.length) = True := eq_true (by omega); (try rw [show ((0 : Int)).toNat = 0 from rfl] at hx127_0); (try rw [Addr.add_zero'] at hx127_0); have HR127_0 := Aside0.mk hi127_0; have HC127_0 := Aside0.mk hl127_0; clear hi127_0 hl127_0; replace p127 := eq_true p127; replace q127 := eq_true q127))
                  repeat (go_quiet (first | (go_at_call 59; (with_reducible refine (spec_l06Word.calls k1 a0 _ _ (rd_L2 l1 x5_1) true _ ?side1 ?side2 A7.out).mono ?_); (case side1 => repeat (first | exact HR124_0.out | (with_reducible refine Kd.C_alloc ?_ _) | (with_reducible refine Kd.C_drewN ?_ _) | (with_reducible refine Kd.C_drew ?_))); (case side2 => exact HC124_0.out); rintro e w' ⟨rfl, ⟨nd, rfl⟩⟩; (try first | exact ⟨rfl, _, World.drewN_drewN _ _ _⟩ | exact ⟨rfl, _, Eq.trans (World.drewN_drewN _ _ _) (congrArg (World.drewN _) (Nat.add_assoc _ _ _))⟩); have p126 : 0 ≤ (x5_1 : Int) := of_decide_eq_true (by first | (with_reducible assumption) | assumption); have q126 : x5_1 < (l1.length : Int) := of_decide_eq_true (by first | (with_reducible assumption) | assumption); obtain ⟨ad126, A126_0, c126_0, e126, hx126_0, hl126_0, hi126_0⟩ := at_L2 HR1.out x5_1 p126 q126; obtain rfl : ad124 = ad126 := (by injection e126); have HR126_0 := Aside0.mk hi126_0; have HC126_0 := Aside0.mk hl126_0; clear hi126_0 hl126_0; replace p126 := eq_true p126; replace q126 := eq_true q126; have ea_ := Option.some.inj (hx124_0.symm.trans hx126_0); injection ea_ with ea_ en_ ec_; subst ea_; subst ec_; clear en_; have p127 : 0 ≤ (0 : Int) := (by omega); have q127 : 0 < (l1.length : Int) := of_decide_eq_true (by first | (with_reducible assumption) | assumption); obtain ⟨ad127, A127_0, c127_0, e127, hx127_0, hl127_0, hi127_0⟩ := at_L2 HR1.out 0 p127 q127; obtain rfl : ad124 = ad127 := (by injection e127); have qi127 : (0 < l1.length) = True := eq_true (by omega); (try rw [show ((0 : Int)).toNat = 0 from rfl] at hx127_0); (try rw [Addr.add_zero'] at hx127_0); have HR127_0 := Aside0.mk hi127_0; have HC127_0 := Aside0.mk hl127_0; clear hi127_0 hl127_0; replace p127 := eq_true p127; replace q127 := eq_true q127)); try go_wp2_with (first | (go_at_call 59; (with_reducible refine (spec_l06Word.calls k1 a0 _ _ (rd_L2 l1 x5_1) true _ ?side1 ?side2 A7.out).mono ?_); (case side1 => repeat (first | exact HR124_0.out | (with_reducible refine Kd.C_alloc ?_ _) | (with_reducible refine Kd.C_drewN ?_ _) | (with_reducible refine Kd.C_drew ?_))); (case side2 => exact HC124_0.out); rintro e w' ⟨rfl, ⟨nd, rfl⟩⟩; (try first | exact ⟨rfl, _, World.drewN_drewN _ _ _⟩ | exact ⟨rfl, _, Eq.trans (World.drewN_drewN _ _ _) (congrArg (World.drewN _) (Nat.add_assoc _ _ _))⟩); have p126 : 0 ≤ (x5_1 : Int) := of_decide_eq_true (by first | (with_reducible assumption) | assumption); have q126 : x5_1 < (l1.length : Int) := of_decide_eq_true (by first | (with_reducible assumption) | assumption); obtain ⟨ad126, A126_0, c126_0, e126, hx126_0, hl126_0, hi126_0⟩ := at_L2 HR1.out x5_1 p126 q126; obtain rfl : ad124 = ad126 := (by injection e126); have HR126_0 := Aside0.mk hi126_0; have HC126_0 := Aside0.mk hl126_0; clear hi126_0 hl126_0; replace p126 := eq_true p126; replace q126 := eq_true q126; have ea_ := Option.some.inj (hx124_0.symm.trans hx126_0); injection ea_ with ea_ en_ ec_; subst ea_; subst ec_; clear en_; have p127 : 0 ≤ (0 : Int) := (by omega); have q127 : 0 < (l1.length : Int) := of_decide_eq_true (by first | (with_reducible assumption) | assumption); obtain ⟨ad127, A127_0, c127_0, e127, hx127_0, hl127_0, hi127_0⟩ := at_L2 HR1.out 0 p127 q127; obtain rfl : ad124 = ad127 := (by injection e127); have qi127 : (0 < l1.length) = True := eq_true (by omega); (try rw [show ((0 : Int)).toNat = 0 from rfl] at hx127_0); (try rw [Addr.add_zero'] at hx127_0); have HR127_0 := Aside0.mk hi127_0; have HC127_0 := Aside0.mk hl127_0; clear hi127_0 hl127_0; replace p127 := eq_true p127; replace q127 := eq_true q127)))
                  go_ret
                  exact ⟨by first | rfl | (simp; done) | (simp [*]; done), by repeat (first | exact Drawn0.refl _ | apply Drawn0.step)⟩
              · rw [if_neg c9] at H
                exact absurd H (by simp)
            · replace c8 := Bool.eq_false_iff.mpr c8
              subst c8
              have H1 : (some 1) = some r := by rw [if_neg (show ¬ (false = true) by decide)] at H; exact H
              clear H
              have H := H1
              clear H1
              obtain rfl := Option.some.inj H
              have p124 : 0 ≤ (x5_1 : Int) := of_decide_eq_true (by first | (with_reducible assumption) | assumption)
              have q124 : x5_1 < (l1.length : Int) := of_decide_eq_true (by first | (with_reducible assumption) | assumption)
              obtain ⟨ad124, A124_0, c124_0, e124, hx124_0, hl124_0, hi124_0⟩ := at_L2 HR1.out x5_1 p124 q124
              cases e124
              have HR124_0 := Aside0.mk hi124_0
              have HC124_0 := Aside0.mk hl124_0
              clear hi124_0 hl124_0
              replace p124 := eq_true p124
              replace q124 := eq_true q124
              go_wp2_with (first | (go_at_call 59; (with_reducible refine (spec_l06Word.calls k1 a0 _ _ (rd_L2 l1 x5_1) false _ ?side1 ?side2 A7.out).mono ?_); (case side1 => repeat (first | exact HR124_0.out | (with_reducible refine Kd.C_alloc ?_ _) | (with_reducible refine Kd.C_drewN ?_ _) | (with_reducible refine Kd.C_drew ?_))); (case side2 => exact HC124_0.out); rintro e w' ⟨rfl, ⟨nd, rfl⟩⟩; (try first | exact ⟨rfl, _, World.drewN_drewN _ _ _⟩ | exact ⟨rfl, _, Eq.trans (World.drewN_drewN _ _ _) (congrArg (World.drewN _) (Nat.add_assoc _ _ _))⟩)))
              repeat (go_quiet (first | (go_at_call 59; (with_reducible refine (spec_l06Word.calls k1 a0 _ _ (rd_L2 l1 x5_1) false _ ?side1 ?side2 A7.out).mono ?_); (case side1 => repeat (first | exact HR124_0.out | (with_reducible refine Kd.C_alloc ?_ _) | (with_reducible refine Kd.C_drewN ?_ _) | (with_reducible refine Kd.C_drew ?_))); (case side2 => exact HC124_0.out); rintro e w' ⟨rfl, ⟨nd, rfl⟩⟩; (try first | exact ⟨rfl, _, World.drewN_drewN _ _ _⟩ | exact ⟨rfl, _, Eq.trans (World.drewN_drewN _ _ _) (congrArg (World.drewN _) (Nat.add_assoc _ _ _))⟩))); try go_wp2_with (first | (go_at_call 59; (with_reducible refine (spec_l06Word.calls k1 a0 _ _ (rd_L2 l1 x5_1) false _ ?side1 ?side2 A7.out).mono ?_); (case side1 => repeat (first | exact HR124_0.out | (with_reducible refine Kd.C_alloc ?_ _) | (with_reducible refine Kd.C_drewN ?_ _) | (with_reducible refine Kd.C_drew ?_))); (case side2 => exact HC124_0.out); rintro e w' ⟨rfl, ⟨nd, rfl⟩⟩; (try first | exact ⟨rfl, _, World.drewN_drewN _ _ _⟩ | exact ⟨rfl, _, Eq.trans (World.drewN_drewN _ _ _) (congrArg (World.drewN _) (Nat.add_assoc _ _ _))⟩))))
              go_ret
              exact ⟨by first | rfl | (simp; done) | (simp [*]; done), by repeat (first | exact Drawn0.refl _ | apply Drawn0.step)⟩
          · rw [if_neg c6] at H
            exact absurd H (by simp)
        · rw [if_neg c5] at H
          have c5b0 : decide (x5_1 < (l1.length : Int)) = false := decide_eq_false c5
          clear c5
          by_cases c11 : (l1.length : Int) > 300
          · rw [if_pos c11] at H
            have c11b0 : decide (300 < (l1.length : Int)) = true := decide_eq_true c11
            have c11b1 : decide (300 < l1.length) = true := decide_eq_true (by omega)
            clear c11
            obtain rfl := Option.some.inj H
            go_wp2
            repeat (go_quiet (fail); try go_wp2)
            go_ret
            exact ⟨by first | rfl | (simp; done) | (simp [*]; done), by repeat (first | exact Drawn0.refl _ | apply Drawn0.step)⟩
          · rw [if_neg c11] at H
            have c11b0 : decide (300 < (l1.length : Int)) = false := decide_eq_false c11
            have c11b1 : decide (300 < l1.length) = false := decide_eq_false (by omega)
            clear c11
            obtain rfl := Option.some.inj H
            go_wp2
            repeat (go_quiet (fail); try go_wp2)
            go_ret
            exact ⟨by first | rfl | (simp; done) | (simp [*]; done), by repeat (first | exact Drawn0.refl _ | apply Drawn0.step)⟩
  · replace c4 := Bool.eq_false_iff.mpr c4
    subst c4
    have H1 : (some 2) = some r := by rw [if_neg (show ¬ (false = true) by decide)] at H; exact H
    clear H
    have H := H1
    clear H1
    obtain rfl := Option.some.inj H
    go_enter Try.func32, Try.ntmps32
    go_wp2_with (first | (go_at_call 36; (with_reducible refine (spec_l06Base.calls a0 false _ A3.out).mono ?_); rintro e w' ⟨rfl, ⟨nd, rfl⟩⟩; (try first | exact ⟨rfl, _, World.drewN_drewN _ _ _⟩ | exact ⟨rfl, _, Eq.trans (World.drewN_drewN _ _ _) (congrArg (World.drewN _) (Nat.add_assoc _ _ _))⟩)))
    repeat (go_quiet (first | (go_at_call 36; (with_reducible refine (spec_l06Base.calls a0 false _ A3.out).mono ?_); rintro e w' ⟨rfl, ⟨nd, rfl⟩⟩; (try first | exact ⟨rfl, _, World.drewN_drewN _ _ _⟩ | exact ⟨rfl, _, Eq.trans (World.drewN_drewN _ _ _) (congrArg (World.drewN _) (Nat.add_assoc _ _ _))⟩))); try go_wp2_with (first | (go_at_call 36; (with_reducible refine (spec_l06Base.calls a0 false _ A3.out).mono ?_); rintro e w' ⟨rfl, ⟨nd, rfl⟩⟩; (try first | exact ⟨rfl, _, World.drewN_drewN _ _ _⟩ | exact ⟨rfl, _, Eq.trans (World.drewN_drewN _ _ _) (congrArg (World.drewN _) (Nat.add_assoc _ _ _))⟩))))
    go_ret
    exact ⟨by first | rfl | (simp; done) | (simp [*]; done), by repeat (first | exact Drawn0.refl _ | apply Drawn0.step)⟩

/-! ### spec_l06Apart: function 40 -/
def spec_l06Apart.l0 : Nat → List Int → List Int → Int → Int → Option (Int)
  | 0, _, _, _, _ => none
  | k + 1, x0, x1, x5, x6 => if x6 < (x0.length : Int) then (if 0 ≤ x6 then (if x6 < (x1.length : Int) then (if (rd x0 x6) = (rd x1 x6) then (spec_l06Apart.l0 k x0 x1 x5 (wrap64 (x6 + 1))) else (spec_l06Apart.l0 k x0 x1 (wrap64 (x5 + 1)) (wrap64 (x6 + 1)))) else (none)) else (none)) else (some x5)
def spec_l06Apart.f (k : Nat) (l0 : List Int) (l1 : List Int) : Option (Int) := spec_l06Apart.l0 k l0 l1 0 0
theorem spec_l06Apart.mono_l : ∀ k, (∀ y0 y1 y2 y3, LeO (spec_l06Apart.l0 k y0 y1 y2 y3) (spec_l06Apart.l0 (k + 1) y0 y1 y2 y3))
  | 0 => fun _ _ _ _ r h => by simp [spec_l06Apart.l0] at h
  | k + 1 => by
    have ih0 := spec_l06Apart.mono_l k
    · intro y0 y1 y2 y3
      unfold spec_l06Apart.l0
      repeat' first
      | (with_reducible exact ih0 _ _ _ _)
      | (with_reducible exact LeO.refl _)
      | (with_reducible exact LeO.none _)
      | (with_reducible refine LeO.ite ?_ ?_)
      | (with_reducible refine LeO.bind ?_ (fun _ => ?_))
      | exact ih0 _ _ _ _
      | exact LeO.none _
      | refine LeO.ite ?_ ?_
      | refine LeO.bind ?_ (fun _ => ?_)
theorem spec_l06Apart.mono : ∀ a0 a1 k, LeO (spec_l06Apart.f k a0 a1) (spec_l06Apart.f (k + 1) a0 a1) := by
  intro a0 a1 k
  have ih0 := spec_l06Apart.mono_l k
  unfold spec_l06Apart.f
  repeat' first
      | (with_reducible exact ih0 _ _ _ _)
      | (with_reducible exact LeO.refl _)
      | (with_reducible exact LeO.none _)
      | (with_reducible refine LeO.ite ?_ ?_)
      | (with_reducible refine LeO.bind ?_ (fun _ => ?_))
      | exact ih0 _ _ _ _
      | exact LeO.none _
      | refine LeO.ite ?_ ?_
      | refine LeO.bind ?_ (fun _ => ?_)
set_option maxHeartbeats 8000000 in
set_option maxRecDepth 100000 in
theorem spec_l06Apart.calls (k : Nat) (A0 : Option Addr) (c0 : Nat) (l0 : List Int) (A1 : Option Addr) (c1 : Nat) (l1 : List Int) (r : Int) (w : World) (hr0 : Kd.C (Kd.int .u16) w A0 l0.length l0) (hc0 : l0.length ≤ c0) (hr1 : Kd.C (Kd.int .u16) w A1 l1.length l1) (hc1 : l1.length ≤ c1) (h : spec_l06Apart.f k l0 l1 = some r) :
    Calls Try.prog 40 #[.slice A0 l0.length c0, .slice A1 l1.length c1] w fun e w' => e = .returned (.int .i64 r) ∧ Drawn0 w w' := by
  have HR0 := Aside0.mk hr0
  have HC0 := Aside0.mk hc0
  clear hr0 hc0
  have HR1 := Aside0.mk hr1
  have HC1 := Aside0.mk hc1
  clear hr1 hc1
  have H : (spec_l06Apart.l0 k l0 l1 0 0) = some r := h
  clear h
  have H' := Aside0.mk H
  clear H
  go_enter Try.func40, Try.ntmps40
  go_wp2
  repeat (go_quiet (fail); try go_wp2)
  go_loopg [5, 6] k (fun kq v5 v6 w' => ∃ (x5_1 : Int) (x6_1 : Int), v5 = .int .i64 x5_1 ∧ v6 = .int .i64 x6_1 ∧ Aside0 (spec_l06Apart.l0 kq l0 l1 x5_1 x6_1 = some r) ∧ Aside0 (kq ≤ k) ∧ Drawn0 w w')
  case atStart => exact ⟨(0), (0), (by first | rfl | (simp; done) | (simp [*]; done)), (by first | rfl | (simp; done) | (simp [*]; done)), H', ⟨Nat.le_refl _⟩, by repeat (first | exact Drawn0.refl _ | apply Drawn0.step)⟩
  case round =>
    clear H'
    try clear c1
    try clear p2
    obtain ⟨x5_1, x6_1, rfl, rfl, HA, HK1, ⟨m1, rfl⟩⟩ := hrel
    cases gk with
    | zero => exact absurd HA.out (by simp [spec_l06Apart.l0])
    | succ k1 =>
      have H := HA.out
      clear HA
      simp only [spec_l06Apart.l0] at H
      by_cases c3 : x6_1 < (l0.length : Int)
      · rw [if_pos c3] at H
        have c3b0 : decide (x6_1 < (l0.length : Int)) = true := decide_eq_true c3
        clear c3
        by_cases c4 : 0 ≤ x6_1
        · rw [if_pos c4] at H
          have c4b0 : decide (0 ≤ x6_1) = true := decide_eq_true c4
          clear c4
          by_cases c5 : x6_1 < (l1.length : Int)
          · rw [if_pos c5] at H
            have c5b0 : decide (x6_1 < (l1.length : Int)) = true := decide_eq_true c5
            clear c5
            by_cases c6 : (rd l0 x6_1) = (rd l1 x6_1)
            · rw [if_pos c6] at H
              have c6b0 : ((rd l0 x6_1) == (rd l1 x6_1)) = true := beq_iff_eq.mpr c6
              have c6b1 : ((rd l0 x6_1) != (rd l1 x6_1)) = false := bne_eq_false_iff_eq.mpr c6
              clear c6
              have H' := Aside0.mk H
              clear H
              have p128 : 0 ≤ (x6_1 : Int) := of_decide_eq_true (by first | (with_reducible assumption) | assumption)
              have q128 : x6_1 < (l0.length : Int) := of_decide_eq_true (by first | (with_reducible assumption) | assumption)
              obtain ⟨ad128, e128, hx128_0⟩ := Kd.at_int HR0.out x6_1 p128 q128
              cases e128
              replace p128 := eq_true p128
              replace q128 := eq_true q128
              have p129 : 0 ≤ (x6_1 : Int) := of_decide_eq_true (by first | (with_reducible assumption) | assumption)
              have q129 : x6_1 < (l1.length : Int) := of_decide_eq_true (by first | (with_reducible assumption) | assumption)
              obtain ⟨ad129, e129, hx129_0⟩ := Kd.at_int HR1.out x6_1 p129 q129
              cases e129
              replace p129 := eq_true p129
              replace q129 := eq_true q129
              go_wp2
              repeat (go_quiet (fail); try go_wp2)
              go_roundg k1
              case measure => have := HK1.out; omega
              case rel => exact ⟨(x5_1), (wrap64 (x6_1 + 1)), (by first | rfl | (simp; done) | (simp [*]; done)), (by first | rfl | (simp; done) | (simp [*]; done)), H', ⟨by have := HK1.out; omega⟩, by repeat (first | exact Drawn0.refl _ | apply Drawn0.step)⟩
            · rw [if_neg c6] at H
              have c6b0 : ((rd l0 x6_1) == (rd l1 x6_1)) = false := beq_eq_false_iff_ne.mpr c6
              have c6b1 : ((rd l0 x6_1) != (rd l1 x6_1)) = true := bne_iff_ne.mpr c6
              have H' := Aside0.mk H
              clear H
              have p128 : 0 ≤ (x6_1 : Int) := of_decide_eq_true (by first | (with_reducible assumption) | assumption)
              have q128 : x6_1 < (l0.length : Int) := of_decide_eq_true (by first | (with_reducible assumption) | assumption)
              obtain ⟨ad128, e128, hx128_0⟩ := Kd.at_int HR0.out x6_1 p128 q128
              cases e128
              replace p128 := eq_true p128
              replace q128 := eq_true q128
              have p129 : 0 ≤ (x6_1 : Int) := of_decide_eq_true (by first | (with_reducible assumption) | assumption)
              have q129 : x6_1 < (l1.length : Int) := of_decide_eq_true (by first | (with_reducible assumption) | assumption)
              obtain ⟨ad129, e129, hx129_0⟩ := Kd.at_int HR1.out x6_1 p129 q129
              cases e129
              replace p129 := eq_true p129
              replace q129 := eq_true q129
              go_wp2
              repeat (go_quiet (fail); try go_wp2)
              go_roundg k1
              case measure => have := HK1.out; omega
              case rel => exact ⟨(wrap64 (x5_1 + 1)), (wrap64 (x6_1 + 1)), (by first | rfl | (simp; done) | (simp [*]; done)), (by first | rfl | (simp; done) | (simp [*]; done)), H', ⟨by have := HK1.out; omega⟩, by repeat (first | exact Drawn0.refl _ | apply Drawn0.step)⟩
          · rw [if_neg c5] at H
            exact absurd H (by simp)
        · rw [if_neg c4] at H
          exact absurd H (by simp)
      · rw [if_neg c3] at H
        have c3b0 : decide (x6_1 < (l0.length : Int)) = false := decide_eq_false c3
        clear c3
        obtain rfl := Option.some.inj H
        go_wp2
        repeat (go_quiet (fail); try go_wp2)
        go_ret
        exact ⟨by first | rfl | (simp; done) | (simp [*]; done), by repeat (first | exact Drawn0.refl _ | apply Drawn0.step)⟩

/-! ### spec_l00Min: function 48 -/
def spec_l00Min.f (a0 : Int) (a1 : Int) : Option (Int) := if a0 < a1 then (some a0) else (some a1)
set_option maxHeartbeats 8000000 in
set_option maxRecDepth 100000 in
theorem spec_l00Min.calls (a0 : Int) (a1 : Int) (r : Int) (w : World) (h : spec_l00Min.f a0 a1 = some r) :
    Calls Try.prog 48 #[.int .i64 a0, .int .i64 a1] w fun e w' => e = .returned (.int .i64 r) ∧ Drawn0 w w' := by
  have H : (if a0 < a1 then (some a0) else (some a1)) = some r := h
  clear h
  by_cases c3 : a0 < a1
  · rw [if_pos c3] at H
    have c3b0 : decide (a0 < a1) = true := decide_eq_true c3
    clear c3
    obtain rfl := Option.some.inj H
    go_enter Try.func48, Try.ntmps48
    go_wp2
    go_ret
    exact ⟨by first | rfl | (simp; done) | (simp [*]; done), by repeat (first | exact Drawn0.refl _ | apply Drawn0.step)⟩
  · rw [if_neg c3] at H
    have c3b0 : decide (a0 < a1) = false := decide_eq_false c3
    clear c3
    obtain rfl := Option.some.inj H
    go_enter Try.func48, Try.ntmps48
    go_wp2
    go_ret
    exact ⟨by first | rfl | (simp; done) | (simp [*]; done), by repeat (first | exact Drawn0.refl _ | apply Drawn0.step)⟩

/-! ### spec_LeastApartOf: function 19 -/
mutual
def spec_LeastApartOf.l0 : Nat → List (List Int) → Int → Int → Option (Int × Int)
  | 0, _, _, _ => none
  | k + 1, x1, x7, x8 => if x8 < (x1.length : Int) then (spec_LeastApartOf.l1 k x1 x7 x8 0) else (some (x7, 0))
def spec_LeastApartOf.l1 : Nat → List (List Int) → Int → Int → Int → Option (Int × Int)
  | 0, _, _, _, _ => none
  | k + 1, x1, x7, x8, x9 => if x9 < x8 then (if 0 ≤ x8 then (if x8 < (x1.length : Int) then (if 0 ≤ x9 then (if x9 < (x1.length : Int) then ((spec_l06Apart.f k (rd_L2 x1 x8) (rd_L2 x1 x9)).bind fun t133 => ((spec_l00Min.f x7 t133).bind fun t134 => (spec_LeastApartOf.l1 k x1 t134 x8 (wrap64 (x9 + 1))))) else (none)) else (none)) else (none)) else (none)) else (spec_LeastApartOf.l0 k x1 x7 (wrap64 (x8 + 1)))
end
def spec_LeastApartOf.f (k : Nat) (a0 : Int) (l1 : List (List Int)) : Option (Int × Int) := (spec_l06Listed.f k a0 l1).bind fun t130 => (if t130 = 0 then (if (l1.length : Int) < 2 then (some (0, 6)) else (spec_LeastApartOf.l0 k l1 7 0)) else (some (0, t130)))
theorem spec_LeastApartOf.mono_l : ∀ k, (∀ y0 y1 y2, LeO (spec_LeastApartOf.l0 k y0 y1 y2) (spec_LeastApartOf.l0 (k + 1) y0 y1 y2)) ∧ (∀ y0 y1 y2 y3, LeO (spec_LeastApartOf.l1 k y0 y1 y2 y3) (spec_LeastApartOf.l1 (k + 1) y0 y1 y2 y3))
  | 0 => ⟨fun _ _ _ r h => by simp [spec_LeastApartOf.l0] at h, fun _ _ _ _ r h => by simp [spec_LeastApartOf.l1] at h⟩
  | k + 1 => by
    obtain ⟨ih0, ih1⟩ := spec_LeastApartOf.mono_l k
    refine ⟨?_, ?_⟩
    · intro y0 y1 y2
      unfold spec_LeastApartOf.l0
      repeat' first
      | (with_reducible exact ih0 _ _ _)
      | (with_reducible exact ih1 _ _ _ _)
      | (with_reducible exact spec_l06Apart.mono _ _ _)
      | (with_reducible exact spec_l06Listed.mono _ _ _)
      | (with_reducible exact LeO.refl _)
      | (with_reducible exact LeO.none _)
      | (with_reducible refine LeO.ite ?_ ?_)
      | (with_reducible refine LeO.bind ?_ (fun _ => ?_))
      | exact ih0 _ _ _
      | exact ih1 _ _ _ _
      | exact spec_l06Apart.mono _ _ _
      | exact spec_l06Listed.mono _ _ _
      | exact LeO.none _
      | refine LeO.ite ?_ ?_
      | refine LeO.bind ?_ (fun _ => ?_)
    · intro y0 y1 y2 y3
      unfold spec_LeastApartOf.l1
      repeat' first
      | (with_reducible exact ih0 _ _ _)
      | (with_reducible exact ih1 _ _ _ _)
      | (with_reducible exact spec_l06Apart.mono _ _ _)
      | (with_reducible exact spec_l06Listed.mono _ _ _)
      | (with_reducible exact LeO.refl _)
      | (with_reducible exact LeO.none _)
      | (with_reducible refine LeO.ite ?_ ?_)
      | (with_reducible refine LeO.bind ?_ (fun _ => ?_))
      | exact ih0 _ _ _
      | exact ih1 _ _ _ _
      | exact spec_l06Apart.mono _ _ _
      | exact spec_l06Listed.mono _ _ _
      | exact LeO.none _
      | refine LeO.ite ?_ ?_
      | refine LeO.bind ?_ (fun _ => ?_)
theorem spec_LeastApartOf.mono : ∀ a0 a1 k, LeO (spec_LeastApartOf.f k a0 a1) (spec_LeastApartOf.f (k + 1) a0 a1) := by
  intro a0 a1 k
  obtain ⟨ih0, ih1⟩ := spec_LeastApartOf.mono_l k
  unfold spec_LeastApartOf.f
  repeat' first
      | (with_reducible exact ih0 _ _ _)
      | (with_reducible exact ih1 _ _ _ _)
      | (with_reducible exact spec_l06Apart.mono _ _ _)
      | (with_reducible exact spec_l06Listed.mono _ _ _)
      | (with_reducible exact LeO.refl _)
      | (with_reducible exact LeO.none _)
      | (with_reducible refine LeO.ite ?_ ?_)
      | (with_reducible refine LeO.bind ?_ (fun _ => ?_))
      | exact ih0 _ _ _
      | exact ih1 _ _ _ _
      | exact spec_l06Apart.mono _ _ _
      | exact spec_l06Listed.mono _ _ _
      | exact LeO.none _
      | refine LeO.ite ?_ ?_
      | refine LeO.bind ?_ (fun _ => ?_)
set_option maxHeartbeats 8000000 in
set_option maxRecDepth 100000 in
theorem spec_LeastApartOf.calls (k : Nat) (a0 : Int) (A1 : Option Addr) (c1 : Nat) (l1 : List (List Int)) (r1 : Int) (r2 : Int) (w : World) (hr1 : Kd.C (Kd.slice 64 (Kd.int .u16)) w A1 l1.length l1) (hc1 : l1.length ≤ c1) (h : spec_LeastApartOf.f k a0 l1 = some (r1, r2)) :
    Calls Try.prog 19 #[.int .i64 a0, .slice A1 l1.length c1] w fun e w' => e = .returned (.tuple #[.int .i64 r1, .int .i64 r2]) ∧ Drawn0 w w' := by
  have HR1 := Aside0.mk hr1
  have HC1 := Aside0.mk hc1
  clear hr1 hc1
  have H : ((spec_l06Listed.f k a0 l1).bind fun t130 => (if t130 = 0 then (if (l1.length : Int) < 2 then (some (0, 6)) else (spec_LeastApartOf.l0 k l1 7 0)) else (some (0, t130)))) = some (r1, r2) := h
  clear h
  replace H := Option.bind_eq_some_iff.mp H
  obtain ⟨t130, A30, H⟩ := H
  replace H : (if t130 = 0 then (if (l1.length : Int) < 2 then (some (0, 6)) else (spec_LeastApartOf.l0 k l1 7 0)) else (some (0, t130))) = some (r1, r2) := H
  have A3 := Aside0.mk A30
  clear A30
  by_cases c4 : t130 = 0
  · rw [if_pos c4] at H
    have c4b0 : (t130 == 0) = true := beq_iff_eq.mpr c4
    have c4b1 : (t130 != 0) = false := bne_eq_false_iff_eq.mpr c4
    clear c4
    by_cases c5 : (l1.length : Int) < 2
    · rw [if_pos c5] at H
      have c5b0 : decide ((l1.length : Int) < 2) = true := decide_eq_true c5
      have c5b1 : decide (l1.length < 2) = true := decide_eq_true (by omega)
      clear c5
      simp only [Option.some.injEq, Prod.mk.injEq] at H
      obtain ⟨rfl, rfl⟩ := H
      go_enter Try.func19, Try.ntmps19
      go_wp2_with (first | (go_at_call 32; (with_reducible refine (spec_l06Listed.calls k a0 _ _ l1 t130 _ ?side1 ?side2 A3.out).mono ?_); (case side1 => repeat (first | exact HR1.out | (with_reducible refine Kd.C_alloc ?_ _) | (with_reducible refine Kd.C_drewN ?_ _) | (with_reducible refine Kd.C_drew ?_))); (case side2 => exact HC1.out); rintro e w' ⟨rfl, ⟨nd, rfl⟩⟩; (try first | exact ⟨rfl, _, World.drewN_drewN _ _ _⟩ | exact ⟨rfl, _, Eq.trans (World.drewN_drewN _ _ _) (congrArg (World.drewN _) (Nat.add_assoc _ _ _))⟩)))
      repeat (go_quiet (first | (go_at_call 32; (with_reducible refine (spec_l06Listed.calls k a0 _ _ l1 t130 _ ?side1 ?side2 A3.out).mono ?_); (case side1 => repeat (first | exact HR1.out | (with_reducible refine Kd.C_alloc ?_ _) | (with_reducible refine Kd.C_drewN ?_ _) | (with_reducible refine Kd.C_drew ?_))); (case side2 => exact HC1.out); rintro e w' ⟨rfl, ⟨nd, rfl⟩⟩; (try first | exact ⟨rfl, _, World.drewN_drewN _ _ _⟩ | exact ⟨rfl, _, Eq.trans (World.drewN_drewN _ _ _) (congrArg (World.drewN _) (Nat.add_assoc _ _ _))⟩))); try go_wp2_with (first | (go_at_call 32; (with_reducible refine (spec_l06Listed.calls k a0 _ _ l1 t130 _ ?side1 ?side2 A3.out).mono ?_); (case side1 => repeat (first | exact HR1.out | (with_reducible refine Kd.C_alloc ?_ _) | (with_reducible refine Kd.C_drewN ?_ _) | (with_reducible refine Kd.C_drew ?_))); (case side2 => exact HC1.out); rintro e w' ⟨rfl, ⟨nd, rfl⟩⟩; (try first | exact ⟨rfl, _, World.drewN_drewN _ _ _⟩ | exact ⟨rfl, _, Eq.trans (World.drewN_drewN _ _ _) (congrArg (World.drewN _) (Nat.add_assoc _ _ _))⟩))))
      go_ret2
      exact ⟨by first | rfl | (simp; done) | (simp [*]; done), by repeat (first | exact Drawn0.refl _ | apply Drawn0.step)⟩
    · rw [if_neg c5] at H
      have c5b0 : decide ((l1.length : Int) < 2) = false := decide_eq_false c5
      have c5b1 : decide (l1.length < 2) = false := decide_eq_false (by omega)
      clear c5
      have H' := Aside0.mk H
      clear H
      go_enter Try.func19, Try.ntmps19
      go_wp2_with (first | (go_at_call 32; (with_reducible refine (spec_l06Listed.calls k a0 _ _ l1 t130 _ ?side1 ?side2 A3.out).mono ?_); (case side1 => repeat (first | exact HR1.out | (with_reducible refine Kd.C_alloc ?_ _) | (with_reducible refine Kd.C_drewN ?_ _) | (with_reducible refine Kd.C_drew ?_))); (case side2 => exact HC1.out); rintro e w' ⟨rfl, ⟨nd, rfl⟩⟩; (try first | exact ⟨rfl, _, World.drewN_drewN _ _ _⟩ | exact ⟨rfl, _, Eq.trans (World.drewN_drewN _ _ _) (congrArg (World.drewN _) (Nat.add_assoc _ _ _))⟩)))
      repeat (go_quiet (first | (go_at_call 32; (with_reducible refine (spec_l06Listed.calls k a0 _ _ l1 t130 _ ?side1 ?side2 A3.out).mono ?_); (case side1 => repeat (first | exact HR1.out | (with_reducible refine Kd.C_alloc ?_ _) | (with_reducible refine Kd.C_drewN ?_ _) | (with_reducible refine Kd.C_drew ?_))); (case side2 => exact HC1.out); rintro e w' ⟨rfl, ⟨nd, rfl⟩⟩; (try first | exact ⟨rfl, _, World.drewN_drewN _ _ _⟩ | exact ⟨rfl, _, Eq.trans (World.drewN_drewN _ _ _) (congrArg (World.drewN _) (Nat.add_assoc _ _ _))⟩))); try go_wp2_with (first | (go_at_call 32; (with_reducible refine (spec_l06Listed.calls k a0 _ _ l1 t130 _ ?side1 ?side2 A3.out).mono ?_); (case side1 => repeat (first | exact HR1.out | (with_reducible refine Kd.C_alloc ?_ _) | (with_reducible refine Kd.C_drewN ?_ _) | (with_reducible refine Kd.C_drew ?_))); (case side2 => exact HC1.out); rintro e w' ⟨rfl, ⟨nd, rfl⟩⟩; (try first | exact ⟨rfl, _, World.drewN_drewN _ _ _⟩ | exact ⟨rfl, _, Eq.trans (World.drewN_drewN _ _ _) (congrArg (World.drewN _) (Nat.add_assoc _ _ _))⟩))))
      go_loopg [7, 8] k (fun kq v7 v8 w' => ∃ (x7_1 : Int) (x8_1 : Int), v7 = .int .i64 x7_1 ∧ v8 = .int .i64 x8_1 ∧ Aside0 (spec_LeastApartOf.l0 kq l1 x7_1 x8_1 = some (r1, r2)) ∧ Aside0 (kq ≤ k) ∧ Drawn0 w w')
      case atStart => exact ⟨(7), (0), (by first | rfl | (simp; done) | (simp [*]; done)), (by first | rfl | (simp; done) | (simp [*]; done)), H', ⟨Nat.le_refl _⟩, by repeat (first | exact Drawn0.refl _ | apply Drawn0.step)⟩
      case round =>
        clear H'
        try clear c1
        try clear p2
        try clear c4
        try clear c4b0
        try clear c4b1
        try clear c5
        try clear c5b0
        try clear c5b1
        obtain ⟨x7_1, x8_1, rfl, rfl, HA, HK1, ⟨m1, rfl⟩⟩ := hrel
        cases gk with
        | zero => exact absurd HA.out (by simp [spec_LeastApartOf.l0])
        | succ k1 =>
          have H := HA.out
          clear HA
          simp only [spec_LeastApartOf.l0] at H
          by_cases c6 : x8_1 < (l1.length : Int)
          · rw [if_pos c6] at H
            have c6b0 : decide (x8_1 < (l1.length : Int)) = true := decide_eq_true c6
            clear c6
            have H' := Aside0.mk H
            clear H
            go_wp2
            repeat (go_quiet (fail); try go_wp2)
            go_loopg [7, 9] k1 (fun kq v7 v9 w' => ∃ (x7_2 : Int) (x9_2 : Int), v7 = .int .i64 x7_2 ∧ v9 = .int .i64 x9_2 ∧ Aside0 (spec_LeastApartOf.l1 kq l1 x7_2 x8_1 x9_2 = some (r1, r2)) ∧ Aside0 (kq ≤ k1) ∧ Drawn0 w w')
            case atStart => exact ⟨(x7_1), (0), (by first | rfl | (simp; done) | (simp [*]; done)), (by first | rfl | (simp; done) | (simp [*]; done)), H', ⟨Nat.le_refl _⟩, by repeat (first | exact Drawn0.refl _ | apply Drawn0.step)⟩
            case round =>
              clear H'
              try clear c1
              try clear p2
              try clear c4
              try clear c4b0
              try clear c4b1
              try clear c5
              try clear c5b0
              try clear c5b1
              try clear c6
              try clear c6b0
              try clear p2
              obtain ⟨x7_2, x9_2, rfl, rfl, HA, HK2, ⟨m2, rfl⟩⟩ := hrel
              cases gk with
              | zero => exact absurd HA.out (by simp [spec_LeastApartOf.l1])
              | succ k2 =>
                have H := HA.out
                clear HA
                simp only [spec_LeastApartOf.l1] at H
                by_cases c7 : x9_2 < x8_1
                · rw [if_pos c7] at H
                  have c7b0 : decide (x9_2 < x8_1) = true := decide_eq_true c7
                  clear c7
                  by_cases c8 : 0 ≤ x8_1
                  · rw [if_pos c8] at H
                    have c8b0 : decide (0 ≤ x8_1) = true := decide_eq_true c8
                    clear c8
                    by_cases c9 : x8_1 < (l1.length : Int)
                    · rw [if_pos c9] at H
                      have c9b0 : decide (x8_1 < (l1.length : Int)) = true := decide_eq_true c9
                      clear c9
                      by_cases c10 : 0 ≤ x9_2
                      · rw [if_pos c10] at H
                        have c10b0 : decide (0 ≤ x9_2) = true := decide_eq_true c10
                        clear c10
                        by_cases c11 : x9_2 < (l1.length : Int)
                        · rw [if_pos c11] at H
                          have c11b0 : decide (x9_2 < (l1.length : Int)) = true := decide_eq_true c11
                          clear c11
                          replace H := Option.bind_eq_some_iff.mp H
                          obtain ⟨t133, A120, H⟩ := H
                          replace H : ((spec_l00Min.f x7_2 t133).bind fun t134 => (spec_LeastApartOf.l1 k2 l1 t134 x8_1 (wrap64 (x9_2 + 1)))) = some (r1, r2) := H
                          have A12 := Aside0.mk A120
                          clear A120
                          replace H := Option.bind_eq_some_iff.mp H
                          obtain ⟨t134, A130, H⟩ := H
                          replace H : (spec_LeastApartOf.l1 k2 l1 t134 x8_1 (wrap64 (x9_2 + 1))) = some (r1, r2) := H
                          have A13 := Aside0.mk A130
                          clear A130
                          have H' := Aside0.mk H
                          clear H
                          have p131 : 0 ≤ (x8_1 : Int) := of_decide_eq_true (by first | (with_reducible assumption) | assumption)
                          have q131 : x8_1 < (l1.length : Int) := of_decide_eq_true (by first | (with_reducible assumption) | assumption)
                          obtain ⟨ad131, A131_0, c131_0, e131, hx131_0, hl131_0, hi131_0⟩ := at_L2 HR1.out x8_1 p131 q131
                          cases e131
                          have HR131_0 := Aside0.mk hi131_0
                          have HC131_0 := Aside0.mk hl131_0
                          clear hi131_0 hl131_0
                          replace p131 := eq_true p131
                          replace q131 := eq_true q131
                          have p132 : 0 ≤ (x9_2 : Int) := of_decide_eq_true (by first | (with_reducible assumption) | assumption)
                          have q132 : x9_2 < (l1.length : Int) := of_decide_eq_true (by first | (with_reducible assumption) | assumption)
                          obtain ⟨ad132, A132_0, c132_0, e132, hx132_0, hl132_0, hi132_0⟩ := at_L2 HR1.out x9_2 p132 q132
                          obtain rfl : ad131 = ad132 := (by injection e132)
                          have HR132_0 := Aside0.mk hi132_0
                          have HC132_0 := Aside0.mk hl132_0
                          clear hi132_0 hl132_0
                          replace p132 := eq_true p132
                          replace q132 := eq_true q132
                          go_wp2_with (first | (go_at_call 40; (with_reducible refine (spec_l06Apart.calls k2 _ _ (rd_L2 l1 x8_1) _ _ (rd_L2 l1 x9_2) t133 _ ?side1 ?side2 ?side3 ?side4 A12.out).mono ?_); (case side1 => repeat (first | exact HR131_0.out | (with_reducible refine Kd.C_alloc ?_ _) | (with_reducible refine Kd.C_drewN ?_ _) | (with_reducible refine Kd.C_drew ?_))); (case side2 => exact HC131_0.out); (case side3 => repeat (first | exact HR132_0.out | (with_reducible refine Kd.C_alloc ?_ _) | (with_reducible refine Kd.C_drewN ?_ _) | (with_reducible refine Kd.C_drew ?_))); (case side4 => exact HC132_0.out); rintro e w' ⟨rfl, ⟨nd, rfl⟩⟩; (try first | exact ⟨rfl, _, World.drewN_drewN _ _ _⟩ | exact ⟨rfl, _, Eq.trans (World.drewN_drewN _ _ _) (congrArg (World.drewN _) (Nat.add_assoc _ _ _))⟩)) | (go_at_call 48; (with_reducible refine (spec_l00Min.calls x7_2 t133 t134 _ A13.out).mono ?_); rintro e w' ⟨rfl, ⟨nd, rfl⟩⟩; (try first | exact ⟨rfl, _, World.drewN_drewN _ _ _⟩ | exact ⟨rfl, _, Eq.trans (World.drewN_drewN _ _ _) (congrArg (World.drewN _) (Nat.add_assoc _ _ _))⟩)))
                          repeat (go_quiet (first | (go_at_call 40; (with_reducible refine (spec_l06Apart.calls k2 _ _ (rd_L2 l1 x8_1) _ _ (rd_L2 l1 x9_2) t133 _ ?side1 ?side2 ?side3 ?side4 A12.out).mono ?_); (case side1 => repeat (first | exact HR131_0.out | (with_reducible refine Kd.C_alloc ?_ _) | (with_reducible refine Kd.C_drewN ?_ _) | (with_reducible refine Kd.C_drew ?_))); (case side2 => exact HC131_0.out); (case side3 => repeat (first | exact HR132_0.out | (with_reducible refine Kd.C_alloc ?_ _) | (with_reducible refine Kd.C_drewN ?_ _) | (with_reducible refine Kd.C_drew ?_))); (case side4 => exact HC132_0.out); rintro e w' ⟨rfl, ⟨nd, rfl⟩⟩; (try first | exact ⟨rfl, _, World.drewN_drewN _ _ _⟩ | exact ⟨rfl, _, Eq.trans (World.drewN_drewN _ _ _) (congrArg (World.drewN _) (Nat.add_assoc _ _ _))⟩)) | (go_at_call 48; (with_reducible refine (spec_l00Min.calls x7_2 t133 t134 _ A13.out).mono ?_); rintro e w' ⟨rfl, ⟨nd, rfl⟩⟩; (try first | exact ⟨rfl, _, World.drewN_drewN _ _ _⟩ | exact ⟨rfl, _, Eq.trans (World.drewN_drewN _ _ _) (congrArg (World.drewN _) (Nat.add_assoc _ _ _))⟩))); try go_wp2_with (first | (go_at_call 40; (with_reducible refine (spec_l06Apart.calls k2 _ _ (rd_L2 l1 x8_1) _ _ (rd_L2 l1 x9_2) t133 _ ?side1 ?side2 ?side3 ?side4 A12.out).mono ?_); (case side1 => repeat (first | exact HR131_0.out | (with_reducible refine Kd.C_alloc ?_ _) | (with_reducible refine Kd.C_drewN ?_ _) | (with_reducible refine Kd.C_drew ?_))); (case side2 => exact HC131_0.out); (case side3 => repeat (first | exact HR132_0.out | (with_reducible refine Kd.C_alloc ?_ _) | (with_reducible refine Kd.C_drewN ?_ _) | (with_reducible refine Kd.C_drew ?_))); (case side4 => exact HC132_0.out); rintro e w' ⟨rfl, ⟨nd, rfl⟩⟩; (try first | exact ⟨rfl, _, World.drewN_drewN _ _ _⟩ | exact ⟨rfl, _, Eq.trans (World.drewN_drewN _ _ _) (congrArg (World.drewN _) (Nat.add_assoc _ _ _))⟩)) | (go_at_call 48; (with_reducible refine (spec_l00Min.calls x7_2 t133 t134 _ A13.out).mono ?_); rintro e w' ⟨rfl, ⟨nd, rfl⟩⟩; (try first | exact ⟨rfl, _, World.drewN_drewN _ _ _⟩ | exact ⟨rfl, _, Eq.trans (World.drewN_drewN _ _ _) (congrArg (World.drewN _) (Nat.add_assoc _ _ _))⟩))))
                          go_roundg k2
                          case measure => have := HK1.out; have := HK2.out; omega
                          case rel => exact ⟨(t134), (wrap64 (x9_2 + 1)), (by first | rfl | (simp; done) | (simp [*]; done)), (by first | rfl | (simp; done) | (simp [*]; done)), H', ⟨by have := HK1.out; have := HK2.out; omega⟩, by repeat (first | exact Drawn0.refl _ | apply Drawn0.step)⟩
                        · rw [if_neg c11] at H
                          exact absurd H (by simp)
                      · rw [if_neg c10] at H
                        exact absurd H (by simp)
                    · rw [if_neg c9] at H
                      exact absurd H (by simp)
                  · rw [if_neg c8] at H
                    exact absurd H (by simp)
                · rw [if_neg c7] at H
                  have c7b0 : decide (x9_2 < x8_1) = false := decide_eq_false c7
                  clear c7
                  have H' := Aside0.mk H
                  clear H
                  go_wp2
                  repeat (go_quiet (fail); try go_wp2)
                  go_roundg k2
                  case measure => have := HK1.out; have := HK2.out; omega
                  case rel => exact ⟨(x7_2), (wrap64 (x8_1 + 1)), (by first | rfl | (simp; done) | (simp [*]; done)), (by first | rfl | (simp; done) | (simp [*]; done)), H', ⟨by have := HK1.out; have := HK2.out; omega⟩, by repeat (first | exact Drawn0.refl _ | apply Drawn0.step)⟩
          · rw [if_neg c6] at H
            have c6b0 : decide (x8_1 < (l1.length : Int)) = false := decide_eq_false c6
            clear c6
            simp only [Option.some.injEq, Prod.mk.injEq] at H
            obtain ⟨rfl, rfl⟩ := H
            go_wp2
            repeat (go_quiet (fail); try go_wp2)
            go_ret2
            exact ⟨by first | rfl | (simp; done) | (simp [*]; done), by repeat (first | exact Drawn0.refl _ | apply Drawn0.step)⟩
  · rw [if_neg c4] at H
    have c4b0 : (t130 == 0) = false := beq_eq_false_iff_ne.mpr c4
    have c4b1 : (t130 != 0) = true := bne_iff_ne.mpr c4
    simp only [Option.some.injEq, Prod.mk.injEq] at H
    obtain ⟨rfl, rfl⟩ := H
    go_enter Try.func19, Try.ntmps19
    go_wp2_with (first | (go_at_call 32; (with_reducible refine (spec_l06Listed.calls k a0 _ _ l1 t130 _ ?side1 ?side2 A3.out).mono ?_); (case side1 => repeat (first | exact HR1.out | (with_reducible refine Kd.C_alloc ?_ _) | (with_reducible refine Kd.C_drewN ?_ _) | (with_reducible refine Kd.C_drew ?_))); (case side2 => exact HC1.out); rintro e w' ⟨rfl, ⟨nd, rfl⟩⟩; (try first | exact ⟨rfl, _, World.drewN_drewN _ _ _⟩ | exact ⟨rfl, _, Eq.trans (World.drewN_drewN _ _ _) (congrArg (World.drewN _) (Nat.add_assoc _ _ _))⟩)))
    repeat (go_quiet (first | (go_at_call 32; (with_reducible refine (spec_l06Listed.calls k a0 _ _ l1 t130 _ ?side1 ?side2 A3.out).mono ?_); (case side1 => repeat (first | exact HR1.out | (with_reducible refine Kd.C_alloc ?_ _) | (with_reducible refine Kd.C_drewN ?_ _) | (with_reducible refine Kd.C_drew ?_))); (case side2 => exact HC1.out); rintro e w' ⟨rfl, ⟨nd, rfl⟩⟩; (try first | exact ⟨rfl, _, World.drewN_drewN _ _ _⟩ | exact ⟨rfl, _, Eq.trans (World.drewN_drewN _ _ _) (congrArg (World.drewN _) (Nat.add_assoc _ _ _))⟩))); try go_wp2_with (first | (go_at_call 32; (with_reducible refine (spec_l06Listed.calls k a0 _ _ l1 t130 _ ?side1 ?side2 A3.out).mono ?_); (case side1 => repeat (first | exact HR1.out | (with_reducible refine Kd.C_alloc ?_ _) | (with_reducible refine Kd.C_drewN ?_ _) | (with_reducible refine Kd.C_drew ?_))); (case side2 => exact HC1.out); rintro e w' ⟨rfl, ⟨nd, rfl⟩⟩; (try first | exact ⟨rfl, _, World.drewN_drewN _ _ _⟩ | exact ⟨rfl, _, Eq.trans (World.drewN_drewN _ _ _) (congrArg (World.drewN _) (Nat.add_assoc _ _ _))⟩))))
    go_ret2
    exact ⟨by first | rfl | (simp; done) | (simp [*]; done), by repeat (first | exact Drawn0.refl _ | apply Drawn0.step)⟩

/-! ### impl_WeightOf: function 35 -/
def impl_WeightOf.l0 : Nat → Int → List Int → Int → Int → Option (Int)
  | 0, _, _, _, _ => none
  | k + 1, x3, x6, x7, x8 => if x8 < x7 then (if 0 ≤ x8 then (if x8 < (x6.length : Int) then (if (rd x6 x8) = 0 then (impl_WeightOf.l0 k x3 x6 x7 (wrap64 (x8 + 1))) else (impl_WeightOf.l0 k (wrap64 (x3 + 1)) x6 x7 (wrap64 (x8 + 1)))) else (none)) else (none)) else (some x3)
def impl_WeightOf.f (k : Nat) (l0 : List Int) : Option (Int) := impl_WeightOf.l0 k 0 l0 (l0.length : Int) 0
theorem impl_WeightOf.mono_l : ∀ k, (∀ y0 y1 y2 y3, LeO (impl_WeightOf.l0 k y0 y1 y2 y3) (impl_WeightOf.l0 (k + 1) y0 y1 y2 y3))
  | 0 => fun _ _ _ _ r h => by simp [impl_WeightOf.l0] at h
  | k + 1 => by
    have ih0 := impl_WeightOf.mono_l k
    · intro y0 y1 y2 y3
      unfold impl_WeightOf.l0
      repeat' first
      | (with_reducible exact ih0 _ _ _ _)
      | (with_reducible exact LeO.refl _)
      | (with_reducible exact LeO.none _)
      | (with_reducible refine LeO.ite ?_ ?_)
      | (with_reducible refine LeO.bind ?_ (fun _ => ?_))
      | exact ih0 _ _ _ _
      | exact LeO.none _
      | refine LeO.ite ?_ ?_
      | refine LeO.bind ?_ (fun _ => ?_)
theorem impl_WeightOf.mono : ∀ a0 k, LeO (impl_WeightOf.f k a0) (impl_WeightOf.f (k + 1) a0) := by
  intro a0 k
  have ih0 := impl_WeightOf.mono_l k
  unfold impl_WeightOf.f
  repeat' first
      | (with_reducible exact ih0 _ _ _ _)
      | (with_reducible exact LeO.refl _)
      | (with_reducible exact LeO.none _)
      | (with_reducible refine LeO.ite ?_ ?_)
      | (with_reducible refine LeO.bind ?_ (fun _ => ?_))
      | exact ih0 _ _ _ _
      | exact LeO.none _
      | refine LeO.ite ?_ ?_
      | refine LeO.bind ?_ (fun _ => ?_)
set_option maxHeartbeats 8000000 in
set_option maxRecDepth 100000 in
theorem impl_WeightOf.calls (k : Nat) (A0 : Option Addr) (c0 : Nat) (l0 : List Int) (r : Int) (w : World) (hr0 : Kd.C (Kd.int .u16) w A0 l0.length l0) (hc0 : l0.length ≤ c0) (h : impl_WeightOf.f k l0 = some r) :
    Calls Try.prog 35 #[.slice A0 l0.length c0] w fun e w' => e = .returned (.int .i64 r) ∧ Drawn0 w w' := by
  have HR0 := Aside0.mk hr0
  have HC0 := Aside0.mk hc0
  clear hr0 hc0
  have H : (impl_WeightOf.l0 k 0 l0 (l0.length : Int) 0) = some r := h
  clear h
  have H' := Aside0.mk H
  clear H
  go_enter Try.func35, Try.ntmps35
  go_wp2
  go_loopg [3, 8] k (fun kq v3 v8 w' => ∃ (x3_1 : Int) (x8_1 : Int), v3 = .int .i64 x3_1 ∧ v8 = .int .i64 x8_1 ∧ Aside0 (impl_WeightOf.l0 kq x3_1 l0 (l0.length : Int) x8_1 = some r) ∧ Aside0 (kq ≤ k) ∧ Drawn0 w w')
  case atStart => exact ⟨(0), (0), (by first | rfl | (simp; done) | (simp [*]; done)), (by first | rfl | (simp; done) | (simp [*]; done)), H', ⟨Nat.le_refl _⟩, by repeat (first | exact Drawn0.refl _ | apply Drawn0.step)⟩
  case round =>
    clear H'
    obtain ⟨x3_1, x8_1, rfl, rfl, HA, HK1, ⟨m1, rfl⟩⟩ := hrel
    cases gk with
    | zero => exact absurd HA.out (by simp [impl_WeightOf.l0])
    | succ k1 =>
      have H := HA.out
      clear HA
      simp only [impl_WeightOf.l0] at H
      by_cases c2 : x8_1 < (l0.length : Int)
      · rw [if_pos c2] at H
        have c2b0 : decide (x8_1 < (l0.length : Int)) = true := decide_eq_true c2
        clear c2
        by_cases c3 : 0 ≤ x8_1
        · rw [if_pos c3] at H
          have c3b0 : decide (0 ≤ x8_1) = true := decide_eq_true c3
          clear c3
          by_cases c4 : x8_1 < (l0.length : Int)
          · rw [if_pos c4] at H
            have c4b0 : decide (x8_1 < (l0.length : Int)) = true := decide_eq_true c4
            clear c4
            by_cases c5 : (rd l0 x8_1) = 0
            · rw [if_pos c5] at H
              have c5b0 : ((rd l0 x8_1) == 0) = true := beq_iff_eq.mpr c5
              have c5b1 : ((rd l0 x8_1) != 0) = false := bne_eq_false_iff_eq.mpr c5
              clear c5
              have H' := Aside0.mk H
              clear H
              have p135 : 0 ≤ (x8_1 : Int) := of_decide_eq_true (by first | (with_reducible assumption) | assumption)
              have q135 : x8_1 < (l0.length : Int) := of_decide_eq_true (by first | (with_reducible assumption) | assumption)
              obtain ⟨ad135, e135, hx135_0⟩ := Kd.at_int HR0.out x8_1 p135 q135
              cases e135
              replace p135 := eq_true p135
              replace q135 := eq_true q135
              go_wp2
              go_roundg k1
              case measure => have := HK1.out; omega
              case rel => exact ⟨(x3_1), (wrap64 (x8_1 + 1)), (by first | rfl | (simp; done) | (simp [*]; done)), (by first | rfl | (simp; done) | (simp [*]; done)), H', ⟨by have := HK1.out; omega⟩, by repeat (first | exact Drawn0.refl _ | apply Drawn0.step)⟩
            · rw [if_neg c5] at H
              have c5b0 : ((rd l0 x8_1) == 0) = false := beq_eq_false_iff_ne.mpr c5
              have c5b1 : ((rd l0 x8_1) != 0) = true := bne_iff_ne.mpr c5
              have H' := Aside0.mk H
              clear H
              have p135 : 0 ≤ (x8_1 : Int) := of_decide_eq_true (by first | (with_reducible assumption) | assumption)
              have q135 : x8_1 < (l0.length : Int) := of_decide_eq_true (by first | (with_reducible assumption) | assumption)
              obtain ⟨ad135, e135, hx135_0⟩ := Kd.at_int HR0.out x8_1 p135 q135
              cases e135
              replace p135 := eq_true p135
              replace q135 := eq_true q135
              go_wp2
              go_roundg k1
              case measure => have := HK1.out; omega
              case rel => exact ⟨(wrap64 (x3_1 + 1)), (wrap64 (x8_1 + 1)), (by first | rfl | (simp; done) | (simp [*]; done)), (by first | rfl | (simp; done) | (simp [*]; done)), H', ⟨by have := HK1.out; omega⟩, by repeat (first | exact Drawn0.refl _ | apply Drawn0.step)⟩
          · rw [if_neg c4] at H
            exact absurd H (by simp)
        · rw [if_neg c3] at H
          exact absurd H (by simp)
      · rw [if_neg c2] at H
        have c2b0 : decide (x8_1 < (l0.length : Int)) = false := decide_eq_false c2
        clear c2
        obtain rfl := Option.some.inj H
        go_wp2
        go_ret
        exact ⟨by first | rfl | (simp; done) | (simp [*]; done), by repeat (first | exact Drawn0.refl _ | apply Drawn0.step)⟩

end Go.Proofs.Ytabdpdnofljkcaa.RFnExactLeastApartOf
