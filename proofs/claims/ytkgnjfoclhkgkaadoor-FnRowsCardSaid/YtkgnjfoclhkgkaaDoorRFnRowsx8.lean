-- WRITTEN BY A PROGRAM OF THIS SESSION over the walks that the kit prints; contracts of functions that the print does not take are this session's own
import Derived.Test.YtkgnjfoclhkgkaaDoorRFnRowsx7
namespace Go.Proofs.YtkgnjfoclhkgkaaDoor.RFnRows
open Go.RowKit Go.Proofs.YtkgnjfoclhkgkaaDoor.Given Go.Proofs.YtkgnjfoclhkgkaaDoor.RRO Go.Proofs.YtkgnjfoclhkgkaaDoor.RMT Go.Proofs.YtkgnjfoclhkgkaaDoor.RAT Go.Proofs.YtkgnjfoclhkgkaaDoor.RLN Go.Proofs.YtkgnjfoclhkgkaaDoor.ROC Go.Proofs.YtkgnjfoclhkgkaaDoorW.PrintWords Go.Proofs.YtkgnjfoclhkgkaaDoorW.PrintLast Go.Proofs.YtkgnjfoclhkgkaaDoorW.PrintMore
attribute [local go_sem] max2_int min2_int max_two min_two max_three min_three max_four min_four   -- for this text's walks alone
set_option linter.unusedVariables false
set_option linter.unusedSimpArgs false
theorem laws_FnRows.j1_no : ∀ (k : Nat) (a : List Int) (b c d e : Int) (l : List Int), laws_FnRows.j1 k a b c d e l true ≠ some true
  | 0, _, _, _, _, _, _ => by simp [laws_FnRows.j1]
  | k + 1, _, _, _, _, _, _ => by simp [laws_FnRows.j1]
theorem laws_FnRows.j3_no : ∀ (k : Nat) (a : Int) (b : List Int) (c : Int) (d : List Int), laws_FnRows.j3 k a b c d true ≠ some true
  | 0, _, _, _, _ => by simp [laws_FnRows.j3]
  | k + 1, _, _, _, _ => by simp [laws_FnRows.j3]
theorem laws_FnRows.j5_no : ∀ (k : Nat) (a : Int) (b : List Int) (c : Int), laws_FnRows.j5 k a b c true ≠ some true
  | 0, _, _, _ => by simp [laws_FnRows.j5]
  | k + 1, _, _, _ => by simp [laws_FnRows.j5]
set_option maxHeartbeats 8000000 in
set_option maxRecDepth 100000 in
theorem laws_FnRows.calls (k : Nat) (A0 : Option Addr) (c0 : Nat) (l0 : List Int) (A1 : Option Addr) (c1 : Nat) (l1 : List Int) (r : Bool) (w : World) (hr0 : Kd.C (Kd.int .u8) w A0 l0.length l0) (hc0 : l0.length ≤ c0) (hr1 : Kd.C (Kd.int .u8) w A1 l1.length l1) (hc1 : l1.length ≤ c1) (ht_ : r = true) (hT : RT w) (h : laws_FnRows.f k l0 l1 = some r) :
    Calls Tryd.prog 3 #[.slice A0 l0.length c0, .slice A1 l1.length c1] w fun e w' => e = .returned (.bool r) ∧ Below w.heap.size w w' := by
 have HTT := Lib.hid hT
 clear hT
 have HR0 := Aside0.mk hr0
 have HC0 := Aside0.mk hc0
 clear hr0 hc0
 have HR1 := Aside0.mk hr1
 have HC1 := Aside0.mk hc1
 clear hr1 hc1
 have HB := Aside0.mk (Below.refl w.heap.size w)
 have H : ((laws_f6big.f l0).bind fun t290 => (if t290 = true then (laws_FnRows.j0 k l0 l1 true) else ((laws_f6big.f l1).bind fun t291 => (laws_FnRows.j0 k l0 l1 t291)))) = some r := h
 clear h
 have HC3 := Aside0.mk H
 clear H
 go_enter Tryd.func3, Tryd.ntmps3
 go_upto_region 1 with (fail)
 repeat (go_quiet (fail); go_upto_region 1 with (fail))
 go_cut [53] (fun v53 wc => ∃ (kq : Nat) (x53_2 : Bool), v53 = .bool x53_2 ∧ Aside0 (laws_FnRows.j0 kq l0 l1 x53_2 = some r) ∧ Aside0 (kq ≤ k) ∧ Aside0 (Below w.heap.size w wc))
 case first =>
  as_aux_lemma =>
  have H := HC3.out
  clear HC3
  replace H := Option.bind_eq_some_iff.mp H
  obtain ⟨t290, A40, H⟩ := H
  replace H : (if t290 = true then (laws_FnRows.j0 k l0 l1 true) else ((laws_f6big.f l1).bind fun t291 => (laws_FnRows.j0 k l0 l1 t291))) = some r := H
  have A4 := Aside0.mk A40
  clear A40
  by_cases c5 : t290 = true
  · subst c5
    have H1 : (laws_FnRows.j0 k l0 l1 true) = some r := by rw [if_pos rfl] at H; exact H
    clear H
    have H := H1
    clear H1
    have H' := Aside0.mk H
    clear H
    go_wp2_with (first | (go_at_call 7; (with_reducible refine (laws_f6big.calls _ _ l0 true _ ?side1 ?side2 A4.out).mono ?_); (case side1 => repeat (first | exact (Kd.C_below HR0.out HB.out) | (with_reducible refine Kd.C_alloc ?_ _) | (with_reducible refine Kd.C_drewN ?_ _) | (with_reducible refine Kd.C_drew ?_))); (case side2 => exact HC0.out); rintro e w' ⟨rfl, ⟨nd, rfl⟩⟩; (try first | exact ⟨rfl, _, World.drewN_drewN _ _ _⟩ | exact ⟨rfl, _, Eq.trans (World.drewN_drewN _ _ _) (congrArg (World.drewN _) (Nat.add_assoc _ _ _))⟩)))
    repeat (go_quiet (first | (go_at_call 7; (with_reducible refine (laws_f6big.calls _ _ l0 true _ ?side1 ?side2 A4.out).mono ?_); (case side1 => repeat (first | exact (Kd.C_below HR0.out HB.out) | (with_reducible refine Kd.C_alloc ?_ _) | (with_reducible refine Kd.C_drewN ?_ _) | (with_reducible refine Kd.C_drew ?_))); (case side2 => exact HC0.out); rintro e w' ⟨rfl, ⟨nd, rfl⟩⟩; (try first | exact ⟨rfl, _, World.drewN_drewN _ _ _⟩ | exact ⟨rfl, _, Eq.trans (World.drewN_drewN _ _ _) (congrArg (World.drewN _) (Nat.add_assoc _ _ _))⟩))); try go_wp2_with (first | (go_at_call 7; (with_reducible refine (laws_f6big.calls _ _ l0 true _ ?side1 ?side2 A4.out).mono ?_); (case side1 => repeat (first | exact (Kd.C_below HR0.out HB.out) | (with_reducible refine Kd.C_alloc ?_ _) | (with_reducible refine Kd.C_drewN ?_ _) | (with_reducible refine Kd.C_drew ?_))); (case side2 => exact HC0.out); rintro e w' ⟨rfl, ⟨nd, rfl⟩⟩; (try first | exact ⟨rfl, _, World.drewN_drewN _ _ _⟩ | exact ⟨rfl, _, Eq.trans (World.drewN_drewN _ _ _) (congrArg (World.drewN _) (Nat.add_assoc _ _ _))⟩))))
    go_meet
    case rel => exact ⟨_, (true), (by first | rfl | (simp; done) | (simp [*]; done)), H', ⟨by first | omega | exact Nat.le_refl _⟩, ⟨by repeat (first | (with_reducible first | exact HB.out | apply below_alloc | apply pw_below_drewN | apply below_drew1) | exact HB.out)⟩⟩
  replace c5 := Bool.eq_false_iff.mpr c5
  subst c5
  have H1 : ((laws_f6big.f l1).bind fun t291 => (laws_FnRows.j0 k l0 l1 t291)) = some r := by rw [if_neg (show ¬ (false = true) by decide)] at H; exact H
  clear H
  have H := H1
  clear H1
  replace H := Option.bind_eq_some_iff.mp H
  obtain ⟨t291, A60, H⟩ := H
  replace H : (laws_FnRows.j0 k l0 l1 t291) = some r := H
  have A6 := Aside0.mk A60
  clear A60
  have H' := Aside0.mk H
  clear H
  go_wp2_with (first | (go_at_call 7; (with_reducible refine (laws_f6big.calls _ _ l0 false _ ?side1 ?side2 A4.out).mono ?_); (case side1 => repeat (first | exact (Kd.C_below HR0.out HB.out) | (with_reducible refine Kd.C_alloc ?_ _) | (with_reducible refine Kd.C_drewN ?_ _) | (with_reducible refine Kd.C_drew ?_))); (case side2 => exact HC0.out); rintro e w' ⟨rfl, ⟨nd, rfl⟩⟩; (try first | exact ⟨rfl, _, World.drewN_drewN _ _ _⟩ | exact ⟨rfl, _, Eq.trans (World.drewN_drewN _ _ _) (congrArg (World.drewN _) (Nat.add_assoc _ _ _))⟩)) | (go_at_call 7; (with_reducible refine (laws_f6big.calls _ _ l1 t291 _ ?side1 ?side2 A6.out).mono ?_); (case side1 => repeat (first | exact (Kd.C_below HR1.out (by repeat (first | (with_reducible first | exact HB.out | apply below_alloc | apply pw_below_drewN | apply below_drew1) | exact HB.out))) | (with_reducible refine Kd.C_alloc ?_ _) | (with_reducible refine Kd.C_drewN ?_ _) | (with_reducible refine Kd.C_drew ?_))); (case side2 => exact HC1.out); rintro e w' ⟨rfl, ⟨nd, rfl⟩⟩; (try first | exact ⟨rfl, _, World.drewN_drewN _ _ _⟩ | exact ⟨rfl, _, Eq.trans (World.drewN_drewN _ _ _) (congrArg (World.drewN _) (Nat.add_assoc _ _ _))⟩)))
  repeat (go_quiet (first | (go_at_call 7; (with_reducible refine (laws_f6big.calls _ _ l0 false _ ?side1 ?side2 A4.out).mono ?_); (case side1 => repeat (first | exact (Kd.C_below HR0.out HB.out) | (with_reducible refine Kd.C_alloc ?_ _) | (with_reducible refine Kd.C_drewN ?_ _) | (with_reducible refine Kd.C_drew ?_))); (case side2 => exact HC0.out); rintro e w' ⟨rfl, ⟨nd, rfl⟩⟩; (try first | exact ⟨rfl, _, World.drewN_drewN _ _ _⟩ | exact ⟨rfl, _, Eq.trans (World.drewN_drewN _ _ _) (congrArg (World.drewN _) (Nat.add_assoc _ _ _))⟩)) | (go_at_call 7; (with_reducible refine (laws_f6big.calls _ _ l1 t291 _ ?side1 ?side2 A6.out).mono ?_); (case side1 => repeat (first | exact (Kd.C_below HR1.out (by repeat (first | (with_reducible first | exact HB.out | apply below_alloc | apply pw_below_drewN | apply below_drew1) | exact HB.out))) | (with_reducible refine Kd.C_alloc ?_ _) | (with_reducible refine Kd.C_drewN ?_ _) | (with_reducible refine Kd.C_drew ?_))); (case side2 => exact HC1.out); rintro e w' ⟨rfl, ⟨nd, rfl⟩⟩; (try first | exact ⟨rfl, _, World.drewN_drewN _ _ _⟩ | exact ⟨rfl, _, Eq.trans (World.drewN_drewN _ _ _) (congrArg (World.drewN _) (Nat.add_assoc _ _ _))⟩))); try go_wp2_with (first | (go_at_call 7; (with_reducible refine (laws_f6big.calls _ _ l0 false _ ?side1 ?side2 A4.out).mono ?_); (case side1 => repeat (first | exact (Kd.C_below HR0.out HB.out) | (with_reducible refine Kd.C_alloc ?_ _) | (with_reducible refine Kd.C_drewN ?_ _) | (with_reducible refine Kd.C_drew ?_))); (case side2 => exact HC0.out); rintro e w' ⟨rfl, ⟨nd, rfl⟩⟩; (try first | exact ⟨rfl, _, World.drewN_drewN _ _ _⟩ | exact ⟨rfl, _, Eq.trans (World.drewN_drewN _ _ _) (congrArg (World.drewN _) (Nat.add_assoc _ _ _))⟩)) | (go_at_call 7; (with_reducible refine (laws_f6big.calls _ _ l1 t291 _ ?side1 ?side2 A6.out).mono ?_); (case side1 => repeat (first | exact (Kd.C_below HR1.out (by repeat (first | (with_reducible first | exact HB.out | apply below_alloc | apply pw_below_drewN | apply below_drew1) | exact HB.out))) | (with_reducible refine Kd.C_alloc ?_ _) | (with_reducible refine Kd.C_drewN ?_ _) | (with_reducible refine Kd.C_drew ?_))); (case side2 => exact HC1.out); rintro e w' ⟨rfl, ⟨nd, rfl⟩⟩; (try first | exact ⟨rfl, _, World.drewN_drewN _ _ _⟩ | exact ⟨rfl, _, Eq.trans (World.drewN_drewN _ _ _) (congrArg (World.drewN _) (Nat.add_assoc _ _ _))⟩))))
  go_meet
  case rel => exact ⟨_, (t291), (by first | rfl | (simp; done) | (simp [*]; done)), H', ⟨by first | omega | exact Nat.le_refl _⟩, ⟨by repeat (first | (with_reducible first | exact HB.out | apply below_alloc | apply pw_below_drewN | apply below_drew1) | exact HB.out)⟩⟩
 case rest =>
 as_aux_lemma =>
 clear HC3
 try clear c1
 try clear p2
 try clear c3
 try clear c5
 obtain ⟨kq, x53_2, rfl, HA, HJ2, HB⟩ := hcut
 cases kq with
 | zero => exact absurd HA.out (by simp [laws_FnRows.j0])
 | succ kj2 =>
 have H := HA.out
 clear HA
 simp only [laws_FnRows.j0] at H
 by_cases c7 : x53_2 = true
 · subst c7
   have H1 : (some true) = some r := by rw [if_pos rfl] at H; exact H
   clear H
   have H := H1
   clear H1
   obtain rfl := Option.some.inj H
   go_wp2
   repeat (go_quiet (fail); try go_wp2)
   go_ret
   exact ⟨by first | rfl | (simp [errW_none, errW_some] <;> rfl) | (simp [*, errW_none, errW_some] <;> rfl), by repeat (first | (with_reducible first | exact HB.out | apply below_alloc | apply pw_below_drewN | apply below_drew1) | exact HB.out)⟩
 replace c7 := Bool.eq_false_iff.mpr c7
 subst c7
 have H1 : ((spec_P6Pick.f l0 6).bind fun t292 => ((spec_P6Row.f l1).bind fun t293 => ((impl_RowValue.f kj2 t292 t293).bind fun bt294 => ((spec_RowValue.f kj2 t292 t293).bind fun bt296 => ((impl_WinningTurn.f kj2 t292 t293).bind fun bt298 => ((spec_WinningTurn.f kj2 t292 t293).bind fun bt300 => ((impl_CountWinningTurns.f kj2 t292 t293).bind fun bt302 => ((impl_RowText.f kj2 t293 10).bind fun bt304 => ((impl_ReadRow.f bt304.1).bind fun bt306 => ((impl_CoinValues.f kj2 t292 10).bind fun bt308 => ((spec_CoinValues.f kj2 t292 10).bind fun bt312 => (if bt294.2 = bt296.2 then (if bt294.2 = 0 then (if bt294.1 = bt296.1 then (if bt298.2 = bt300.2 then (if bt298.1 = bt300.1 then (if bt302.2 = 0 then (if ((bt298.2 == 0) != (bt296.1 != 0)) = true then (laws_FnRows.j1 kj2 l1 t292 t293 bt298.2 bt300.1 bt312.1 true) else (if ((decide (bt302.1 > 0)) != (bt296.1 != 0)) = true then (laws_FnRows.j1 kj2 l1 t292 t293 bt298.2 bt300.1 bt312.1 true) else (if bt304.2 = 0 then (if bt306.2 = 0 then (if bt306.1 = t293 then (if bt308.2 = bt312.2 then (if bt308.2 = 0 then ((spec_SameNims.f kj2 bt308.1 bt312.1).bind fun t316 => (if t316 = true then (laws_FnRows.j1 kj2 l1 t292 t293 bt298.2 bt300.1 bt312.1 ((bt312.1.length : Int) != 10)) else (laws_FnRows.j1 kj2 l1 t292 t293 bt298.2 bt300.1 bt312.1 true))) else (laws_FnRows.j1 kj2 l1 t292 t293 bt298.2 bt300.1 bt312.1 true)) else (laws_FnRows.j1 kj2 l1 t292 t293 bt298.2 bt300.1 bt312.1 true)) else (laws_FnRows.j1 kj2 l1 t292 t293 bt298.2 bt300.1 bt312.1 true)) else (laws_FnRows.j1 kj2 l1 t292 t293 bt298.2 bt300.1 bt312.1 true)) else (laws_FnRows.j1 kj2 l1 t292 t293 bt298.2 bt300.1 bt312.1 true)))) else (laws_FnRows.j1 kj2 l1 t292 t293 bt298.2 bt300.1 bt312.1 true)) else (laws_FnRows.j1 kj2 l1 t292 t293 bt298.2 bt300.1 bt312.1 true)) else (laws_FnRows.j1 kj2 l1 t292 t293 bt298.2 bt300.1 bt312.1 true)) else (laws_FnRows.j1 kj2 l1 t292 t293 bt298.2 bt300.1 bt312.1 true)) else (laws_FnRows.j1 kj2 l1 t292 t293 bt298.2 bt300.1 bt312.1 true)) else (laws_FnRows.j1 kj2 l1 t292 t293 bt298.2 bt300.1 bt312.1 true))))))))))))) = some r := by rw [if_neg (show ¬ (false = true) by decide)] at H; exact H
 clear H
 have H := H1
 clear H1
 replace H := Option.bind_eq_some_iff.mp H
 obtain ⟨t292, A80, H⟩ := H
 replace H : ((spec_P6Row.f l1).bind fun t293 => ((impl_RowValue.f kj2 t292 t293).bind fun bt294 => ((spec_RowValue.f kj2 t292 t293).bind fun bt296 => ((impl_WinningTurn.f kj2 t292 t293).bind fun bt298 => ((spec_WinningTurn.f kj2 t292 t293).bind fun bt300 => ((impl_CountWinningTurns.f kj2 t292 t293).bind fun bt302 => ((impl_RowText.f kj2 t293 10).bind fun bt304 => ((impl_ReadRow.f bt304.1).bind fun bt306 => ((impl_CoinValues.f kj2 t292 10).bind fun bt308 => ((spec_CoinValues.f kj2 t292 10).bind fun bt312 => (if bt294.2 = bt296.2 then (if bt294.2 = 0 then (if bt294.1 = bt296.1 then (if bt298.2 = bt300.2 then (if bt298.1 = bt300.1 then (if bt302.2 = 0 then (if ((bt298.2 == 0) != (bt296.1 != 0)) = true then (laws_FnRows.j1 kj2 l1 t292 t293 bt298.2 bt300.1 bt312.1 true) else (if ((decide (bt302.1 > 0)) != (bt296.1 != 0)) = true then (laws_FnRows.j1 kj2 l1 t292 t293 bt298.2 bt300.1 bt312.1 true) else (if bt304.2 = 0 then (if bt306.2 = 0 then (if bt306.1 = t293 then (if bt308.2 = bt312.2 then (if bt308.2 = 0 then ((spec_SameNims.f kj2 bt308.1 bt312.1).bind fun t316 => (if t316 = true then (laws_FnRows.j1 kj2 l1 t292 t293 bt298.2 bt300.1 bt312.1 ((bt312.1.length : Int) != 10)) else (laws_FnRows.j1 kj2 l1 t292 t293 bt298.2 bt300.1 bt312.1 true))) else (laws_FnRows.j1 kj2 l1 t292 t293 bt298.2 bt300.1 bt312.1 true)) else (laws_FnRows.j1 kj2 l1 t292 t293 bt298.2 bt300.1 bt312.1 true)) else (laws_FnRows.j1 kj2 l1 t292 t293 bt298.2 bt300.1 bt312.1 true)) else (laws_FnRows.j1 kj2 l1 t292 t293 bt298.2 bt300.1 bt312.1 true)) else (laws_FnRows.j1 kj2 l1 t292 t293 bt298.2 bt300.1 bt312.1 true)))) else (laws_FnRows.j1 kj2 l1 t292 t293 bt298.2 bt300.1 bt312.1 true)) else (laws_FnRows.j1 kj2 l1 t292 t293 bt298.2 bt300.1 bt312.1 true)) else (laws_FnRows.j1 kj2 l1 t292 t293 bt298.2 bt300.1 bt312.1 true)) else (laws_FnRows.j1 kj2 l1 t292 t293 bt298.2 bt300.1 bt312.1 true)) else (laws_FnRows.j1 kj2 l1 t292 t293 bt298.2 bt300.1 bt312.1 true)) else (laws_FnRows.j1 kj2 l1 t292 t293 bt298.2 bt300.1 bt312.1 true)))))))))))) = some r := H
 have A8 := Aside0.mk A80
 clear A80
 replace H := Option.bind_eq_some_iff.mp H
 obtain ⟨t293, A90, H⟩ := H
 replace H : ((impl_RowValue.f kj2 t292 t293).bind fun bt294 => ((spec_RowValue.f kj2 t292 t293).bind fun bt296 => ((impl_WinningTurn.f kj2 t292 t293).bind fun bt298 => ((spec_WinningTurn.f kj2 t292 t293).bind fun bt300 => ((impl_CountWinningTurns.f kj2 t292 t293).bind fun bt302 => ((impl_RowText.f kj2 t293 10).bind fun bt304 => ((impl_ReadRow.f bt304.1).bind fun bt306 => ((impl_CoinValues.f kj2 t292 10).bind fun bt308 => ((spec_CoinValues.f kj2 t292 10).bind fun bt312 => (if bt294.2 = bt296.2 then (if bt294.2 = 0 then (if bt294.1 = bt296.1 then (if bt298.2 = bt300.2 then (if bt298.1 = bt300.1 then (if bt302.2 = 0 then (if ((bt298.2 == 0) != (bt296.1 != 0)) = true then (laws_FnRows.j1 kj2 l1 t292 t293 bt298.2 bt300.1 bt312.1 true) else (if ((decide (bt302.1 > 0)) != (bt296.1 != 0)) = true then (laws_FnRows.j1 kj2 l1 t292 t293 bt298.2 bt300.1 bt312.1 true) else (if bt304.2 = 0 then (if bt306.2 = 0 then (if bt306.1 = t293 then (if bt308.2 = bt312.2 then (if bt308.2 = 0 then ((spec_SameNims.f kj2 bt308.1 bt312.1).bind fun t316 => (if t316 = true then (laws_FnRows.j1 kj2 l1 t292 t293 bt298.2 bt300.1 bt312.1 ((bt312.1.length : Int) != 10)) else (laws_FnRows.j1 kj2 l1 t292 t293 bt298.2 bt300.1 bt312.1 true))) else (laws_FnRows.j1 kj2 l1 t292 t293 bt298.2 bt300.1 bt312.1 true)) else (laws_FnRows.j1 kj2 l1 t292 t293 bt298.2 bt300.1 bt312.1 true)) else (laws_FnRows.j1 kj2 l1 t292 t293 bt298.2 bt300.1 bt312.1 true)) else (laws_FnRows.j1 kj2 l1 t292 t293 bt298.2 bt300.1 bt312.1 true)) else (laws_FnRows.j1 kj2 l1 t292 t293 bt298.2 bt300.1 bt312.1 true)))) else (laws_FnRows.j1 kj2 l1 t292 t293 bt298.2 bt300.1 bt312.1 true)) else (laws_FnRows.j1 kj2 l1 t292 t293 bt298.2 bt300.1 bt312.1 true)) else (laws_FnRows.j1 kj2 l1 t292 t293 bt298.2 bt300.1 bt312.1 true)) else (laws_FnRows.j1 kj2 l1 t292 t293 bt298.2 bt300.1 bt312.1 true)) else (laws_FnRows.j1 kj2 l1 t292 t293 bt298.2 bt300.1 bt312.1 true)) else (laws_FnRows.j1 kj2 l1 t292 t293 bt298.2 bt300.1 bt312.1 true))))))))))) = some r := H
 have A9 := Aside0.mk A90
 clear A90
 replace H := Option.bind_eq_some_iff.mp H
 obtain ⟨⟨t294, t295⟩, A100, H⟩ := H
 replace H : ((spec_RowValue.f kj2 t292 t293).bind fun bt296 => ((impl_WinningTurn.f kj2 t292 t293).bind fun bt298 => ((spec_WinningTurn.f kj2 t292 t293).bind fun bt300 => ((impl_CountWinningTurns.f kj2 t292 t293).bind fun bt302 => ((impl_RowText.f kj2 t293 10).bind fun bt304 => ((impl_ReadRow.f bt304.1).bind fun bt306 => ((impl_CoinValues.f kj2 t292 10).bind fun bt308 => ((spec_CoinValues.f kj2 t292 10).bind fun bt312 => (if t295 = bt296.2 then (if t295 = 0 then (if t294 = bt296.1 then (if bt298.2 = bt300.2 then (if bt298.1 = bt300.1 then (if bt302.2 = 0 then (if ((bt298.2 == 0) != (bt296.1 != 0)) = true then (laws_FnRows.j1 kj2 l1 t292 t293 bt298.2 bt300.1 bt312.1 true) else (if ((decide (bt302.1 > 0)) != (bt296.1 != 0)) = true then (laws_FnRows.j1 kj2 l1 t292 t293 bt298.2 bt300.1 bt312.1 true) else (if bt304.2 = 0 then (if bt306.2 = 0 then (if bt306.1 = t293 then (if bt308.2 = bt312.2 then (if bt308.2 = 0 then ((spec_SameNims.f kj2 bt308.1 bt312.1).bind fun t316 => (if t316 = true then (laws_FnRows.j1 kj2 l1 t292 t293 bt298.2 bt300.1 bt312.1 ((bt312.1.length : Int) != 10)) else (laws_FnRows.j1 kj2 l1 t292 t293 bt298.2 bt300.1 bt312.1 true))) else (laws_FnRows.j1 kj2 l1 t292 t293 bt298.2 bt300.1 bt312.1 true)) else (laws_FnRows.j1 kj2 l1 t292 t293 bt298.2 bt300.1 bt312.1 true)) else (laws_FnRows.j1 kj2 l1 t292 t293 bt298.2 bt300.1 bt312.1 true)) else (laws_FnRows.j1 kj2 l1 t292 t293 bt298.2 bt300.1 bt312.1 true)) else (laws_FnRows.j1 kj2 l1 t292 t293 bt298.2 bt300.1 bt312.1 true)))) else (laws_FnRows.j1 kj2 l1 t292 t293 bt298.2 bt300.1 bt312.1 true)) else (laws_FnRows.j1 kj2 l1 t292 t293 bt298.2 bt300.1 bt312.1 true)) else (laws_FnRows.j1 kj2 l1 t292 t293 bt298.2 bt300.1 bt312.1 true)) else (laws_FnRows.j1 kj2 l1 t292 t293 bt298.2 bt300.1 bt312.1 true)) else (laws_FnRows.j1 kj2 l1 t292 t293 bt298.2 bt300.1 bt312.1 true)) else (laws_FnRows.j1 kj2 l1 t292 t293 bt298.2 bt300.1 bt312.1 true)))))))))) = some r := H
 have A10 := Aside0.mk A100
 clear A100
 replace H := Option.bind_eq_some_iff.mp H
 obtain ⟨⟨t296, t297⟩, A110, H⟩ := H
 replace H : ((impl_WinningTurn.f kj2 t292 t293).bind fun bt298 => ((spec_WinningTurn.f kj2 t292 t293).bind fun bt300 => ((impl_CountWinningTurns.f kj2 t292 t293).bind fun bt302 => ((impl_RowText.f kj2 t293 10).bind fun bt304 => ((impl_ReadRow.f bt304.1).bind fun bt306 => ((impl_CoinValues.f kj2 t292 10).bind fun bt308 => ((spec_CoinValues.f kj2 t292 10).bind fun bt312 => (if t295 = t297 then (if t295 = 0 then (if t294 = t296 then (if bt298.2 = bt300.2 then (if bt298.1 = bt300.1 then (if bt302.2 = 0 then (if ((bt298.2 == 0) != (t296 != 0)) = true then (laws_FnRows.j1 kj2 l1 t292 t293 bt298.2 bt300.1 bt312.1 true) else (if ((decide (bt302.1 > 0)) != (t296 != 0)) = true then (laws_FnRows.j1 kj2 l1 t292 t293 bt298.2 bt300.1 bt312.1 true) else (if bt304.2 = 0 then (if bt306.2 = 0 then (if bt306.1 = t293 then (if bt308.2 = bt312.2 then (if bt308.2 = 0 then ((spec_SameNims.f kj2 bt308.1 bt312.1).bind fun t316 => (if t316 = true then (laws_FnRows.j1 kj2 l1 t292 t293 bt298.2 bt300.1 bt312.1 ((bt312.1.length : Int) != 10)) else (laws_FnRows.j1 kj2 l1 t292 t293 bt298.2 bt300.1 bt312.1 true))) else (laws_FnRows.j1 kj2 l1 t292 t293 bt298.2 bt300.1 bt312.1 true)) else (laws_FnRows.j1 kj2 l1 t292 t293 bt298.2 bt300.1 bt312.1 true)) else (laws_FnRows.j1 kj2 l1 t292 t293 bt298.2 bt300.1 bt312.1 true)) else (laws_FnRows.j1 kj2 l1 t292 t293 bt298.2 bt300.1 bt312.1 true)) else (laws_FnRows.j1 kj2 l1 t292 t293 bt298.2 bt300.1 bt312.1 true)))) else (laws_FnRows.j1 kj2 l1 t292 t293 bt298.2 bt300.1 bt312.1 true)) else (laws_FnRows.j1 kj2 l1 t292 t293 bt298.2 bt300.1 bt312.1 true)) else (laws_FnRows.j1 kj2 l1 t292 t293 bt298.2 bt300.1 bt312.1 true)) else (laws_FnRows.j1 kj2 l1 t292 t293 bt298.2 bt300.1 bt312.1 true)) else (laws_FnRows.j1 kj2 l1 t292 t293 bt298.2 bt300.1 bt312.1 true)) else (laws_FnRows.j1 kj2 l1 t292 t293 bt298.2 bt300.1 bt312.1 true))))))))) = some r := H
 have A11 := Aside0.mk A110
 clear A110
 replace H := Option.bind_eq_some_iff.mp H
 obtain ⟨⟨t298, t299⟩, A120, H⟩ := H
 replace H : ((spec_WinningTurn.f kj2 t292 t293).bind fun bt300 => ((impl_CountWinningTurns.f kj2 t292 t293).bind fun bt302 => ((impl_RowText.f kj2 t293 10).bind fun bt304 => ((impl_ReadRow.f bt304.1).bind fun bt306 => ((impl_CoinValues.f kj2 t292 10).bind fun bt308 => ((spec_CoinValues.f kj2 t292 10).bind fun bt312 => (if t295 = t297 then (if t295 = 0 then (if t294 = t296 then (if t299 = bt300.2 then (if t298 = bt300.1 then (if bt302.2 = 0 then (if ((t299 == 0) != (t296 != 0)) = true then (laws_FnRows.j1 kj2 l1 t292 t293 t299 bt300.1 bt312.1 true) else (if ((decide (bt302.1 > 0)) != (t296 != 0)) = true then (laws_FnRows.j1 kj2 l1 t292 t293 t299 bt300.1 bt312.1 true) else (if bt304.2 = 0 then (if bt306.2 = 0 then (if bt306.1 = t293 then (if bt308.2 = bt312.2 then (if bt308.2 = 0 then ((spec_SameNims.f kj2 bt308.1 bt312.1).bind fun t316 => (if t316 = true then (laws_FnRows.j1 kj2 l1 t292 t293 t299 bt300.1 bt312.1 ((bt312.1.length : Int) != 10)) else (laws_FnRows.j1 kj2 l1 t292 t293 t299 bt300.1 bt312.1 true))) else (laws_FnRows.j1 kj2 l1 t292 t293 t299 bt300.1 bt312.1 true)) else (laws_FnRows.j1 kj2 l1 t292 t293 t299 bt300.1 bt312.1 true)) else (laws_FnRows.j1 kj2 l1 t292 t293 t299 bt300.1 bt312.1 true)) else (laws_FnRows.j1 kj2 l1 t292 t293 t299 bt300.1 bt312.1 true)) else (laws_FnRows.j1 kj2 l1 t292 t293 t299 bt300.1 bt312.1 true)))) else (laws_FnRows.j1 kj2 l1 t292 t293 t299 bt300.1 bt312.1 true)) else (laws_FnRows.j1 kj2 l1 t292 t293 t299 bt300.1 bt312.1 true)) else (laws_FnRows.j1 kj2 l1 t292 t293 t299 bt300.1 bt312.1 true)) else (laws_FnRows.j1 kj2 l1 t292 t293 t299 bt300.1 bt312.1 true)) else (laws_FnRows.j1 kj2 l1 t292 t293 t299 bt300.1 bt312.1 true)) else (laws_FnRows.j1 kj2 l1 t292 t293 t299 bt300.1 bt312.1 true)))))))) = some r := H
 have A12 := Aside0.mk A120
 clear A120
 replace H := Option.bind_eq_some_iff.mp H
 obtain ⟨⟨t300, t301⟩, A130, H⟩ := H
 replace H : ((impl_CountWinningTurns.f kj2 t292 t293).bind fun bt302 => ((impl_RowText.f kj2 t293 10).bind fun bt304 => ((impl_ReadRow.f bt304.1).bind fun bt306 => ((impl_CoinValues.f kj2 t292 10).bind fun bt308 => ((spec_CoinValues.f kj2 t292 10).bind fun bt312 => (if t295 = t297 then (if t295 = 0 then (if t294 = t296 then (if t299 = t301 then (if t298 = t300 then (if bt302.2 = 0 then (if ((t299 == 0) != (t296 != 0)) = true then (laws_FnRows.j1 kj2 l1 t292 t293 t299 t300 bt312.1 true) else (if ((decide (bt302.1 > 0)) != (t296 != 0)) = true then (laws_FnRows.j1 kj2 l1 t292 t293 t299 t300 bt312.1 true) else (if bt304.2 = 0 then (if bt306.2 = 0 then (if bt306.1 = t293 then (if bt308.2 = bt312.2 then (if bt308.2 = 0 then ((spec_SameNims.f kj2 bt308.1 bt312.1).bind fun t316 => (if t316 = true then (laws_FnRows.j1 kj2 l1 t292 t293 t299 t300 bt312.1 ((bt312.1.length : Int) != 10)) else (laws_FnRows.j1 kj2 l1 t292 t293 t299 t300 bt312.1 true))) else (laws_FnRows.j1 kj2 l1 t292 t293 t299 t300 bt312.1 true)) else (laws_FnRows.j1 kj2 l1 t292 t293 t299 t300 bt312.1 true)) else (laws_FnRows.j1 kj2 l1 t292 t293 t299 t300 bt312.1 true)) else (laws_FnRows.j1 kj2 l1 t292 t293 t299 t300 bt312.1 true)) else (laws_FnRows.j1 kj2 l1 t292 t293 t299 t300 bt312.1 true)))) else (laws_FnRows.j1 kj2 l1 t292 t293 t299 t300 bt312.1 true)) else (laws_FnRows.j1 kj2 l1 t292 t293 t299 t300 bt312.1 true)) else (laws_FnRows.j1 kj2 l1 t292 t293 t299 t300 bt312.1 true)) else (laws_FnRows.j1 kj2 l1 t292 t293 t299 t300 bt312.1 true)) else (laws_FnRows.j1 kj2 l1 t292 t293 t299 t300 bt312.1 true)) else (laws_FnRows.j1 kj2 l1 t292 t293 t299 t300 bt312.1 true))))))) = some r := H
 have A13 := Aside0.mk A130
 clear A130
 replace H := Option.bind_eq_some_iff.mp H
 obtain ⟨⟨t302, t303⟩, A140, H⟩ := H
 replace H : ((impl_RowText.f kj2 t293 10).bind fun bt304 => ((impl_ReadRow.f bt304.1).bind fun bt306 => ((impl_CoinValues.f kj2 t292 10).bind fun bt308 => ((spec_CoinValues.f kj2 t292 10).bind fun bt312 => (if t295 = t297 then (if t295 = 0 then (if t294 = t296 then (if t299 = t301 then (if t298 = t300 then (if t303 = 0 then (if ((t299 == 0) != (t296 != 0)) = true then (laws_FnRows.j1 kj2 l1 t292 t293 t299 t300 bt312.1 true) else (if ((decide (t302 > 0)) != (t296 != 0)) = true then (laws_FnRows.j1 kj2 l1 t292 t293 t299 t300 bt312.1 true) else (if bt304.2 = 0 then (if bt306.2 = 0 then (if bt306.1 = t293 then (if bt308.2 = bt312.2 then (if bt308.2 = 0 then ((spec_SameNims.f kj2 bt308.1 bt312.1).bind fun t316 => (if t316 = true then (laws_FnRows.j1 kj2 l1 t292 t293 t299 t300 bt312.1 ((bt312.1.length : Int) != 10)) else (laws_FnRows.j1 kj2 l1 t292 t293 t299 t300 bt312.1 true))) else (laws_FnRows.j1 kj2 l1 t292 t293 t299 t300 bt312.1 true)) else (laws_FnRows.j1 kj2 l1 t292 t293 t299 t300 bt312.1 true)) else (laws_FnRows.j1 kj2 l1 t292 t293 t299 t300 bt312.1 true)) else (laws_FnRows.j1 kj2 l1 t292 t293 t299 t300 bt312.1 true)) else (laws_FnRows.j1 kj2 l1 t292 t293 t299 t300 bt312.1 true)))) else (laws_FnRows.j1 kj2 l1 t292 t293 t299 t300 bt312.1 true)) else (laws_FnRows.j1 kj2 l1 t292 t293 t299 t300 bt312.1 true)) else (laws_FnRows.j1 kj2 l1 t292 t293 t299 t300 bt312.1 true)) else (laws_FnRows.j1 kj2 l1 t292 t293 t299 t300 bt312.1 true)) else (laws_FnRows.j1 kj2 l1 t292 t293 t299 t300 bt312.1 true)) else (laws_FnRows.j1 kj2 l1 t292 t293 t299 t300 bt312.1 true)))))) = some r := H
 have A14 := Aside0.mk A140
 clear A140
 replace H := Option.bind_eq_some_iff.mp H
 obtain ⟨⟨t304, t305⟩, A150, H⟩ := H
 replace H : ((impl_ReadRow.f t304).bind fun bt306 => ((impl_CoinValues.f kj2 t292 10).bind fun bt308 => ((spec_CoinValues.f kj2 t292 10).bind fun bt312 => (if t295 = t297 then (if t295 = 0 then (if t294 = t296 then (if t299 = t301 then (if t298 = t300 then (if t303 = 0 then (if ((t299 == 0) != (t296 != 0)) = true then (laws_FnRows.j1 kj2 l1 t292 t293 t299 t300 bt312.1 true) else (if ((decide (t302 > 0)) != (t296 != 0)) = true then (laws_FnRows.j1 kj2 l1 t292 t293 t299 t300 bt312.1 true) else (if t305 = 0 then (if bt306.2 = 0 then (if bt306.1 = t293 then (if bt308.2 = bt312.2 then (if bt308.2 = 0 then ((spec_SameNims.f kj2 bt308.1 bt312.1).bind fun t316 => (if t316 = true then (laws_FnRows.j1 kj2 l1 t292 t293 t299 t300 bt312.1 ((bt312.1.length : Int) != 10)) else (laws_FnRows.j1 kj2 l1 t292 t293 t299 t300 bt312.1 true))) else (laws_FnRows.j1 kj2 l1 t292 t293 t299 t300 bt312.1 true)) else (laws_FnRows.j1 kj2 l1 t292 t293 t299 t300 bt312.1 true)) else (laws_FnRows.j1 kj2 l1 t292 t293 t299 t300 bt312.1 true)) else (laws_FnRows.j1 kj2 l1 t292 t293 t299 t300 bt312.1 true)) else (laws_FnRows.j1 kj2 l1 t292 t293 t299 t300 bt312.1 true)))) else (laws_FnRows.j1 kj2 l1 t292 t293 t299 t300 bt312.1 true)) else (laws_FnRows.j1 kj2 l1 t292 t293 t299 t300 bt312.1 true)) else (laws_FnRows.j1 kj2 l1 t292 t293 t299 t300 bt312.1 true)) else (laws_FnRows.j1 kj2 l1 t292 t293 t299 t300 bt312.1 true)) else (laws_FnRows.j1 kj2 l1 t292 t293 t299 t300 bt312.1 true)) else (laws_FnRows.j1 kj2 l1 t292 t293 t299 t300 bt312.1 true))))) = some r := H
 have A15 := Aside0.mk A150
 clear A150
 replace H := Option.bind_eq_some_iff.mp H
 obtain ⟨⟨t306, t307⟩, A160, H⟩ := H
 replace H : ((impl_CoinValues.f kj2 t292 10).bind fun bt308 => ((spec_CoinValues.f kj2 t292 10).bind fun bt312 => (if t295 = t297 then (if t295 = 0 then (if t294 = t296 then (if t299 = t301 then (if t298 = t300 then (if t303 = 0 then (if ((t299 == 0) != (t296 != 0)) = true then (laws_FnRows.j1 kj2 l1 t292 t293 t299 t300 bt312.1 true) else (if ((decide (t302 > 0)) != (t296 != 0)) = true then (laws_FnRows.j1 kj2 l1 t292 t293 t299 t300 bt312.1 true) else (if t305 = 0 then (if t307 = 0 then (if t306 = t293 then (if bt308.2 = bt312.2 then (if bt308.2 = 0 then ((spec_SameNims.f kj2 bt308.1 bt312.1).bind fun t316 => (if t316 = true then (laws_FnRows.j1 kj2 l1 t292 t293 t299 t300 bt312.1 ((bt312.1.length : Int) != 10)) else (laws_FnRows.j1 kj2 l1 t292 t293 t299 t300 bt312.1 true))) else (laws_FnRows.j1 kj2 l1 t292 t293 t299 t300 bt312.1 true)) else (laws_FnRows.j1 kj2 l1 t292 t293 t299 t300 bt312.1 true)) else (laws_FnRows.j1 kj2 l1 t292 t293 t299 t300 bt312.1 true)) else (laws_FnRows.j1 kj2 l1 t292 t293 t299 t300 bt312.1 true)) else (laws_FnRows.j1 kj2 l1 t292 t293 t299 t300 bt312.1 true)))) else (laws_FnRows.j1 kj2 l1 t292 t293 t299 t300 bt312.1 true)) else (laws_FnRows.j1 kj2 l1 t292 t293 t299 t300 bt312.1 true)) else (laws_FnRows.j1 kj2 l1 t292 t293 t299 t300 bt312.1 true)) else (laws_FnRows.j1 kj2 l1 t292 t293 t299 t300 bt312.1 true)) else (laws_FnRows.j1 kj2 l1 t292 t293 t299 t300 bt312.1 true)) else (laws_FnRows.j1 kj2 l1 t292 t293 t299 t300 bt312.1 true)))) = some r := H
 have A16 := Aside0.mk A160
 clear A160
 replace H := Option.bind_eq_some_iff.mp H
 obtain ⟨⟨t308, t309⟩, A170, H⟩ := H
 replace H : ((spec_CoinValues.f kj2 t292 10).bind fun bt312 => (if t295 = t297 then (if t295 = 0 then (if t294 = t296 then (if t299 = t301 then (if t298 = t300 then (if t303 = 0 then (if ((t299 == 0) != (t296 != 0)) = true then (laws_FnRows.j1 kj2 l1 t292 t293 t299 t300 bt312.1 true) else (if ((decide (t302 > 0)) != (t296 != 0)) = true then (laws_FnRows.j1 kj2 l1 t292 t293 t299 t300 bt312.1 true) else (if t305 = 0 then (if t307 = 0 then (if t306 = t293 then (if t309 = bt312.2 then (if t309 = 0 then ((spec_SameNims.f kj2 t308 bt312.1).bind fun t316 => (if t316 = true then (laws_FnRows.j1 kj2 l1 t292 t293 t299 t300 bt312.1 ((bt312.1.length : Int) != 10)) else (laws_FnRows.j1 kj2 l1 t292 t293 t299 t300 bt312.1 true))) else (laws_FnRows.j1 kj2 l1 t292 t293 t299 t300 bt312.1 true)) else (laws_FnRows.j1 kj2 l1 t292 t293 t299 t300 bt312.1 true)) else (laws_FnRows.j1 kj2 l1 t292 t293 t299 t300 bt312.1 true)) else (laws_FnRows.j1 kj2 l1 t292 t293 t299 t300 bt312.1 true)) else (laws_FnRows.j1 kj2 l1 t292 t293 t299 t300 bt312.1 true)))) else (laws_FnRows.j1 kj2 l1 t292 t293 t299 t300 bt312.1 true)) else (laws_FnRows.j1 kj2 l1 t292 t293 t299 t300 bt312.1 true)) else (laws_FnRows.j1 kj2 l1 t292 t293 t299 t300 bt312.1 true)) else (laws_FnRows.j1 kj2 l1 t292 t293 t299 t300 bt312.1 true)) else (laws_FnRows.j1 kj2 l1 t292 t293 t299 t300 bt312.1 true)) else (laws_FnRows.j1 kj2 l1 t292 t293 t299 t300 bt312.1 true))) = some r := H
 have A17 := Aside0.mk A170
 clear A170
 replace H := Option.bind_eq_some_iff.mp H
 obtain ⟨⟨t312, t313⟩, A180, H⟩ := H
 replace H : (if t295 = t297 then (if t295 = 0 then (if t294 = t296 then (if t299 = t301 then (if t298 = t300 then (if t303 = 0 then (if ((t299 == 0) != (t296 != 0)) = true then (laws_FnRows.j1 kj2 l1 t292 t293 t299 t300 t312 true) else (if ((decide (t302 > 0)) != (t296 != 0)) = true then (laws_FnRows.j1 kj2 l1 t292 t293 t299 t300 t312 true) else (if t305 = 0 then (if t307 = 0 then (if t306 = t293 then (if t309 = t313 then (if t309 = 0 then ((spec_SameNims.f kj2 t308 t312).bind fun t316 => (if t316 = true then (laws_FnRows.j1 kj2 l1 t292 t293 t299 t300 t312 ((t312.length : Int) != 10)) else (laws_FnRows.j1 kj2 l1 t292 t293 t299 t300 t312 true))) else (laws_FnRows.j1 kj2 l1 t292 t293 t299 t300 t312 true)) else (laws_FnRows.j1 kj2 l1 t292 t293 t299 t300 t312 true)) else (laws_FnRows.j1 kj2 l1 t292 t293 t299 t300 t312 true)) else (laws_FnRows.j1 kj2 l1 t292 t293 t299 t300 t312 true)) else (laws_FnRows.j1 kj2 l1 t292 t293 t299 t300 t312 true)))) else (laws_FnRows.j1 kj2 l1 t292 t293 t299 t300 t312 true)) else (laws_FnRows.j1 kj2 l1 t292 t293 t299 t300 t312 true)) else (laws_FnRows.j1 kj2 l1 t292 t293 t299 t300 t312 true)) else (laws_FnRows.j1 kj2 l1 t292 t293 t299 t300 t312 true)) else (laws_FnRows.j1 kj2 l1 t292 t293 t299 t300 t312 true)) else (laws_FnRows.j1 kj2 l1 t292 t293 t299 t300 t312 true)) = some r := H
 have A18 := Aside0.mk A180
 clear A180
 have HC19 := Aside0.mk H
 clear H
 go_upto_region 14 with (first | (go_at_call 8; (with_reducible refine (spec_P6Pick.calls _ _ l0 6 t292 _ ?side1 ?side2 A8.out).mono ?_); (case side1 => repeat (first | exact (Kd.C_below HR0.out HB.out) | (with_reducible refine Kd.C_alloc ?_ _) | (with_reducible refine Kd.C_drewN ?_ _) | (with_reducible refine Kd.C_drew ?_))); (case side2 => exact HC0.out); rintro e w20 ⟨rfl, hb⟩; have n0_ := Aside0.mk (below_step (by repeat (first | (with_reducible first | exact HB.out | apply below_alloc | apply pw_below_drewN | apply below_drew1) | exact HB.out)) hb); clear HB; have HB := n0_; clear n0_; (try clear hb); (try clear hb2); (try clear hk); (try clear hi)) | (go_at_call 9; (with_reducible refine (spec_P6Row.calls _ _ l1 t293 _ ?side1 ?side2 A9.out).mono ?_); (case side1 => repeat (first | exact (Kd.C_below HR1.out HB.out) | (with_reducible refine Kd.C_alloc ?_ _) | (with_reducible refine Kd.C_drewN ?_ _) | (with_reducible refine Kd.C_drew ?_))); (case side2 => exact HC1.out); rintro e w21 ⟨rfl, hb⟩; have n0_ := Aside0.mk (below_step (by repeat (first | (with_reducible first | exact HB.out | apply below_alloc | apply pw_below_drewN | apply below_drew1) | exact HB.out)) hb); clear HB; have HB := n0_; clear n0_; (try clear hb); (try clear hb2); (try clear hk); (try clear hi)) | (go_at_call 10; (with_reducible refine (impl_RowValue.calls kj2 t292 t293 t294 t295 _ (by first | ((repeat (first | exact HTT.out | apply RT.drewN | apply RT.drew)); done) | exact (HTT.out.on (by repeat (first | (with_reducible first | exact HB.out | apply below_alloc | apply pw_below_drewN | apply below_drew1) | exact HB.out)))) A10.out).mono ?_); rintro e w22 ⟨rfl, hb⟩; have n0_ := Aside0.mk (below_step (by repeat (first | (with_reducible first | exact HB.out | apply below_alloc | apply pw_below_drewN | apply below_drew1) | exact HB.out)) hb); clear HB; have HB := n0_; clear n0_; (try clear hb); (try clear hb2); (try clear hk); (try clear hi)) | (go_at_call 11; (with_reducible refine (spec_RowValue.calls kj2 t292 t293 t296 t297 _ A11.out).mono ?_); rintro e w23 ⟨rfl, hb⟩; have n0_ := Aside0.mk (below_step (by repeat (first | (with_reducible first | exact HB.out | apply below_alloc | apply pw_below_drewN | apply below_drew1) | exact HB.out)) hb); clear HB; have HB := n0_; clear n0_; (try clear hb); (try clear hb2); (try clear hk); (try clear hi)) | (go_at_call 12; (with_reducible refine (impl_WinningTurn.calls kj2 t292 t293 t298 t299 _ (by first | ((repeat (first | exact HTT.out | apply RT.drewN | apply RT.drew)); done) | exact (HTT.out.on (by repeat (first | (with_reducible first | exact HB.out | apply below_alloc | apply pw_below_drewN | apply below_drew1) | exact HB.out)))) A12.out).mono ?_); rintro e w24 ⟨rfl, hb⟩; have n0_ := Aside0.mk (below_step (by repeat (first | (with_reducible first | exact HB.out | apply below_alloc | apply pw_below_drewN | apply below_drew1) | exact HB.out)) hb); clear HB; have HB := n0_; clear n0_; (try clear hb); (try clear hb2); (try clear hk); (try clear hi)) | (go_at_call 13; (with_reducible refine (spec_WinningTurn.calls kj2 t292 t293 t300 t301 _ A13.out).mono ?_); rintro e w25 ⟨rfl, hb⟩; have n0_ := Aside0.mk (below_step (by repeat (first | (with_reducible first | exact HB.out | apply below_alloc | apply pw_below_drewN | apply below_drew1) | exact HB.out)) hb); clear HB; have HB := n0_; clear n0_; (try clear hb); (try clear hb2); (try clear hk); (try clear hi)) | (go_at_call 14; (with_reducible refine (impl_CountWinningTurns.calls kj2 t292 t293 t302 t303 _ (by first | ((repeat (first | exact HTT.out | apply RT.drewN | apply RT.drew)); done) | exact (HTT.out.on (by repeat (first | (with_reducible first | exact HB.out | apply below_alloc | apply pw_below_drewN | apply below_drew1) | exact HB.out)))) A14.out).mono ?_); rintro e w26 ⟨rfl, hb⟩; have n0_ := Aside0.mk (below_step (by repeat (first | (with_reducible first | exact HB.out | apply below_alloc | apply pw_below_drewN | apply below_drew1) | exact HB.out)) hb); clear HB; have HB := n0_; clear n0_; (try clear hb); (try clear hb2); (try clear hk); (try clear hi)) | (go_at_call 15; (with_reducible refine (impl_RowText.calls kj2 t293 10 t304 t305 _ A15.out).mono ?_); rintro e w' ⟨rfl, ⟨nd, rfl⟩⟩; (try first | exact ⟨rfl, _, World.drewN_drewN _ _ _⟩ | exact ⟨rfl, _, Eq.trans (World.drewN_drewN _ _ _) (congrArg (World.drewN _) (Nat.add_assoc _ _ _))⟩)) | (go_at_call 16; (with_reducible refine (impl_ReadRow.calls t304 t306 t307 _ A16.out).mono ?_); rintro e w27 ⟨rfl, hb⟩; have n0_ := Aside0.mk (below_step (by repeat (first | (with_reducible first | exact HB.out | apply below_alloc | apply pw_below_drewN | apply below_drew1) | exact HB.out)) hb); clear HB; have HB := n0_; clear n0_; (try clear hb); (try clear hb2); (try clear hk); (try clear hi)) | (go_at_call 17; (with_reducible refine (impl_CoinValues.calls kj2 t292 10 t308 t309 _ (by first | ((repeat (first | exact HTT.out | apply RT.drewN | apply RT.drew)); done) | exact (HTT.out.on (by repeat (first | (with_reducible first | exact HB.out | apply below_alloc | apply pw_below_drewN | apply below_drew1) | exact HB.out)))) A17.out).mono ?_); rintro e w28 ⟨v310, rfl, ho0, hb⟩; have n0_ := Aside0.mk (Kd.R_lower ho0 (below_size (by repeat (first | (with_reducible first | exact HB.out | apply below_alloc | apply pw_below_drewN | apply below_drew1) | exact HB.out)))); have n1_ := Aside0.mk (below_step (by repeat (first | (with_reducible first | exact HB.out | apply below_alloc | apply pw_below_drewN | apply below_drew1) | exact HB.out)) hb); clear HB; have HO311 := n0_; have HB := n1_; clear n0_ n1_; (try clear hb); (try clear hb2); (try clear hk); (try clear hi); (try clear ho0)) | (go_at_call 18; (with_reducible refine (spec_CoinValues.calls kj2 t292 10 t312 t313 _ A18.out).mono ?_); rintro e w29 ⟨v314, rfl, ho0, hb⟩; have n0_ := Aside0.mk (Kd.R_elder' (by (with_reducible repeat (first | apply Kd.R_alloc | apply Kd.R_drewN | apply Kd.R_drew)); exact HO311.out) (Kd.R_base ho0) hb); have n1_ := Aside0.mk (Kd.R_lower (Kd.R_new' ho0 (Kd.R_lt (by (with_reducible repeat (first | apply Kd.R_alloc | apply Kd.R_drewN | apply Kd.R_drew)); exact HO311.out))) (below_size (by repeat (first | (with_reducible first | exact HB.out | apply below_alloc | apply pw_below_drewN | apply below_drew1) | exact HB.out)))); have n2_ := Aside0.mk (below_step (by repeat (first | (with_reducible first | exact HB.out | apply below_alloc | apply pw_below_drewN | apply below_drew1) | exact HB.out)) hb); clear HO311; clear HB; have HO311 := n0_; have HO315 := n1_; have HB := n2_; clear n0_ n1_ n2_; (try clear hb); (try clear hb2); (try clear hk); (try clear hi); (try clear ho0)))
 repeat (go_quiet (first | (go_at_call 8; (with_reducible refine (spec_P6Pick.calls _ _ l0 6 t292 _ ?side1 ?side2 A8.out).mono ?_); (case side1 => repeat (first | exact (Kd.C_below HR0.out HB.out) | (with_reducible refine Kd.C_alloc ?_ _) | (with_reducible refine Kd.C_drewN ?_ _) | (with_reducible refine Kd.C_drew ?_))); (case side2 => exact HC0.out); rintro e w20 ⟨rfl, hb⟩; have n0_ := Aside0.mk (below_step (by repeat (first | (with_reducible first | exact HB.out | apply below_alloc | apply pw_below_drewN | apply below_drew1) | exact HB.out)) hb); clear HB; have HB := n0_; clear n0_; (try clear hb); (try clear hb2); (try clear hk); (try clear hi)) | (go_at_call 9; (with_reducible refine (spec_P6Row.calls _ _ l1 t293 _ ?side1 ?side2 A9.out).mono ?_); (case side1 => repeat (first | exact (Kd.C_below HR1.out HB.out) | (with_reducible refine Kd.C_alloc ?_ _) | (with_reducible refine Kd.C_drewN ?_ _) | (with_reducible refine Kd.C_drew ?_))); (case side2 => exact HC1.out); rintro e w21 ⟨rfl, hb⟩; have n0_ := Aside0.mk (below_step (by repeat (first | (with_reducible first | exact HB.out | apply below_alloc | apply pw_below_drewN | apply below_drew1) | exact HB.out)) hb); clear HB; have HB := n0_; clear n0_; (try clear hb); (try clear hb2); (try clear hk); (try clear hi)) | (go_at_call 10; (with_reducible refine (impl_RowValue.calls kj2 t292 t293 t294 t295 _ (by first | ((repeat (first | exact HTT.out | apply RT.drewN | apply RT.drew)); done) | exact (HTT.out.on (by repeat (first | (with_reducible first | exact HB.out | apply below_alloc | apply pw_below_drewN | apply below_drew1) | exact HB.out)))) A10.out).mono ?_); rintro e w22 ⟨rfl, hb⟩; have n0_ := Aside0.mk (below_step (by repeat (first | (with_reducible first | exact HB.out | apply below_alloc | apply pw_below_drewN | apply below_drew1) | exact HB.out)) hb); clear HB; have HB := n0_; clear n0_; (try clear hb); (try clear hb2); (try clear hk); (try clear hi)) | (go_at_call 11; (with_reducible refine (spec_RowValue.calls kj2 t292 t293 t296 t297 _ A11.out).mono ?_); rintro e w23 ⟨rfl, hb⟩; have n0_ := Aside0.mk (below_step (by repeat (first | (with_reducible first | exact HB.out | apply below_alloc | apply pw_below_drewN | apply below_drew1) | exact HB.out)) hb); clear HB; have HB := n0_; clear n0_; (try clear hb); (try clear hb2); (try clear hk); (try clear hi)) | (go_at_call 12; (with_reducible refine (impl_WinningTurn.calls kj2 t292 t293 t298 t299 _ (by first | ((repeat (first | exact HTT.out | apply RT.drewN | apply RT.drew)); done) | exact (HTT.out.on (by repeat (first | (with_reducible first | exact HB.out | apply below_alloc | apply pw_below_drewN | apply below_drew1) | exact HB.out)))) A12.out).mono ?_); rintro e w24 ⟨rfl, hb⟩; have n0_ := Aside0.mk (below_step (by repeat (first | (with_reducible first | exact HB.out | apply below_alloc | apply pw_below_drewN | apply below_drew1) | exact HB.out)) hb); clear HB; have HB := n0_; clear n0_; (try clear hb); (try clear hb2); (try clear hk); (try clear hi)) | (go_at_call 13; (with_reducible refine (spec_WinningTurn.calls kj2 t292 t293 t300 t301 _ A13.out).mono ?_); rintro e w25 ⟨rfl, hb⟩; have n0_ := Aside0.mk (below_step (by repeat (first | (with_reducible first | exact HB.out | apply below_alloc | apply pw_below_drewN | apply below_drew1) | exact HB.out)) hb); clear HB; have HB := n0_; clear n0_; (try clear hb); (try clear hb2); (try clear hk); (try clear hi)) | (go_at_call 14; (with_reducible refine (impl_CountWinningTurns.calls kj2 t292 t293 t302 t303 _ (by first | ((repeat (first | exact HTT.out | apply RT.drewN | apply RT.drew)); done) | exact (HTT.out.on (by repeat (first | (with_reducible first | exact HB.out | apply below_alloc | apply pw_below_drewN | apply below_drew1) | exact HB.out)))) A14.out).mono ?_); rintro e w26 ⟨rfl, hb⟩; have n0_ := Aside0.mk (below_step (by repeat (first | (with_reducible first | exact HB.out | apply below_alloc | apply pw_below_drewN | apply below_drew1) | exact HB.out)) hb); clear HB; have HB := n0_; clear n0_; (try clear hb); (try clear hb2); (try clear hk); (try clear hi)) | (go_at_call 15; (with_reducible refine (impl_RowText.calls kj2 t293 10 t304 t305 _ A15.out).mono ?_); rintro e w' ⟨rfl, ⟨nd, rfl⟩⟩; (try first | exact ⟨rfl, _, World.drewN_drewN _ _ _⟩ | exact ⟨rfl, _, Eq.trans (World.drewN_drewN _ _ _) (congrArg (World.drewN _) (Nat.add_assoc _ _ _))⟩)) | (go_at_call 16; (with_reducible refine (impl_ReadRow.calls t304 t306 t307 _ A16.out).mono ?_); rintro e w27 ⟨rfl, hb⟩; have n0_ := Aside0.mk (below_step (by repeat (first | (with_reducible first | exact HB.out | apply below_alloc | apply pw_below_drewN | apply below_drew1) | exact HB.out)) hb); clear HB; have HB := n0_; clear n0_; (try clear hb); (try clear hb2); (try clear hk); (try clear hi)) | (go_at_call 17; (with_reducible refine (impl_CoinValues.calls kj2 t292 10 t308 t309 _ (by first | ((repeat (first | exact HTT.out | apply RT.drewN | apply RT.drew)); done) | exact (HTT.out.on (by repeat (first | (with_reducible first | exact HB.out | apply below_alloc | apply pw_below_drewN | apply below_drew1) | exact HB.out)))) A17.out).mono ?_); rintro e w28 ⟨v310, rfl, ho0, hb⟩; have n0_ := Aside0.mk (Kd.R_lower ho0 (below_size (by repeat (first | (with_reducible first | exact HB.out | apply below_alloc | apply pw_below_drewN | apply below_drew1) | exact HB.out)))); have n1_ := Aside0.mk (below_step (by repeat (first | (with_reducible first | exact HB.out | apply below_alloc | apply pw_below_drewN | apply below_drew1) | exact HB.out)) hb); clear HB; have HO311 := n0_; have HB := n1_; clear n0_ n1_; (try clear hb); (try clear hb2); (try clear hk); (try clear hi); (try clear ho0)) | (go_at_call 18; (with_reducible refine (spec_CoinValues.calls kj2 t292 10 t312 t313 _ A18.out).mono ?_); rintro e w29 ⟨v314, rfl, ho0, hb⟩; have n0_ := Aside0.mk (Kd.R_elder' (by (with_reducible repeat (first | apply Kd.R_alloc | apply Kd.R_drewN | apply Kd.R_drew)); exact HO311.out) (Kd.R_base ho0) hb); have n1_ := Aside0.mk (Kd.R_lower (Kd.R_new' ho0 (Kd.R_lt (by (with_reducible repeat (first | apply Kd.R_alloc | apply Kd.R_drewN | apply Kd.R_drew)); exact HO311.out))) (below_size (by repeat (first | (with_reducible first | exact HB.out | apply below_alloc | apply pw_below_drewN | apply below_drew1) | exact HB.out)))); have n2_ := Aside0.mk (below_step (by repeat (first | (with_reducible first | exact HB.out | apply below_alloc | apply pw_below_drewN | apply below_drew1) | exact HB.out)) hb); clear HO311; clear HB; have HO311 := n0_; have HO315 := n1_; have HB := n2_; clear n0_ n1_ n2_; (try clear hb); (try clear hb2); (try clear hk); (try clear hi); (try clear ho0))); go_upto_region 14 with (first | (go_at_call 8; (with_reducible refine (spec_P6Pick.calls _ _ l0 6 t292 _ ?side1 ?side2 A8.out).mono ?_); (case side1 => repeat (first | exact (Kd.C_below HR0.out HB.out) | (with_reducible refine Kd.C_alloc ?_ _) | (with_reducible refine Kd.C_drewN ?_ _) | (with_reducible refine Kd.C_drew ?_))); (case side2 => exact HC0.out); rintro e w20 ⟨rfl, hb⟩; have n0_ := Aside0.mk (below_step (by repeat (first | (with_reducible first | exact HB.out | apply below_alloc | apply pw_below_drewN | apply below_drew1) | exact HB.out)) hb); clear HB; have HB := n0_; clear n0_; (try clear hb); (try clear hb2); (try clear hk); (try clear hi)) | (go_at_call 9; (with_reducible refine (spec_P6Row.calls _ _ l1 t293 _ ?side1 ?side2 A9.out).mono ?_); (case side1 => repeat (first | exact (Kd.C_below HR1.out HB.out) | (with_reducible refine Kd.C_alloc ?_ _) | (with_reducible refine Kd.C_drewN ?_ _) | (with_reducible refine Kd.C_drew ?_))); (case side2 => exact HC1.out); rintro e w21 ⟨rfl, hb⟩; have n0_ := Aside0.mk (below_step (by repeat (first | (with_reducible first | exact HB.out | apply below_alloc | apply pw_below_drewN | apply below_drew1) | exact HB.out)) hb); clear HB; have HB := n0_; clear n0_; (try clear hb); (try clear hb2); (try clear hk); (try clear hi)) | (go_at_call 10; (with_reducible refine (impl_RowValue.calls kj2 t292 t293 t294 t295 _ (by first | ((repeat (first | exact HTT.out | apply RT.drewN | apply RT.drew)); done) | exact (HTT.out.on (by repeat (first | (with_reducible first | exact HB.out | apply below_alloc | apply pw_below_drewN | apply below_drew1) | exact HB.out)))) A10.out).mono ?_); rintro e w22 ⟨rfl, hb⟩; have n0_ := Aside0.mk (below_step (by repeat (first | (with_reducible first | exact HB.out | apply below_alloc | apply pw_below_drewN | apply below_drew1) | exact HB.out)) hb); clear HB; have HB := n0_; clear n0_; (try clear hb); (try clear hb2); (try clear hk); (try clear hi)) | (go_at_call 11; (with_reducible refine (spec_RowValue.calls kj2 t292 t293 t296 t297 _ A11.out).mono ?_); rintro e w23 ⟨rfl, hb⟩; have n0_ := Aside0.mk (below_step (by repeat (first | (with_reducible first | exact HB.out | apply below_alloc | apply pw_below_drewN | apply below_drew1) | exact HB.out)) hb); clear HB; have HB := n0_; clear n0_; (try clear hb); (try clear hb2); (try clear hk); (try clear hi)) | (go_at_call 12; (with_reducible refine (impl_WinningTurn.calls kj2 t292 t293 t298 t299 _ (by first | ((repeat (first | exact HTT.out | apply RT.drewN | apply RT.drew)); done) | exact (HTT.out.on (by repeat (first | (with_reducible first | exact HB.out | apply below_alloc | apply pw_below_drewN | apply below_drew1) | exact HB.out)))) A12.out).mono ?_); rintro e w24 ⟨rfl, hb⟩; have n0_ := Aside0.mk (below_step (by repeat (first | (with_reducible first | exact HB.out | apply below_alloc | apply pw_below_drewN | apply below_drew1) | exact HB.out)) hb); clear HB; have HB := n0_; clear n0_; (try clear hb); (try clear hb2); (try clear hk); (try clear hi)) | (go_at_call 13; (with_reducible refine (spec_WinningTurn.calls kj2 t292 t293 t300 t301 _ A13.out).mono ?_); rintro e w25 ⟨rfl, hb⟩; have n0_ := Aside0.mk (below_step (by repeat (first | (with_reducible first | exact HB.out | apply below_alloc | apply pw_below_drewN | apply below_drew1) | exact HB.out)) hb); clear HB; have HB := n0_; clear n0_; (try clear hb); (try clear hb2); (try clear hk); (try clear hi)) | (go_at_call 14; (with_reducible refine (impl_CountWinningTurns.calls kj2 t292 t293 t302 t303 _ (by first | ((repeat (first | exact HTT.out | apply RT.drewN | apply RT.drew)); done) | exact (HTT.out.on (by repeat (first | (with_reducible first | exact HB.out | apply below_alloc | apply pw_below_drewN | apply below_drew1) | exact HB.out)))) A14.out).mono ?_); rintro e w26 ⟨rfl, hb⟩; have n0_ := Aside0.mk (below_step (by repeat (first | (with_reducible first | exact HB.out | apply below_alloc | apply pw_below_drewN | apply below_drew1) | exact HB.out)) hb); clear HB; have HB := n0_; clear n0_; (try clear hb); (try clear hb2); (try clear hk); (try clear hi)) | (go_at_call 15; (with_reducible refine (impl_RowText.calls kj2 t293 10 t304 t305 _ A15.out).mono ?_); rintro e w' ⟨rfl, ⟨nd, rfl⟩⟩; (try first | exact ⟨rfl, _, World.drewN_drewN _ _ _⟩ | exact ⟨rfl, _, Eq.trans (World.drewN_drewN _ _ _) (congrArg (World.drewN _) (Nat.add_assoc _ _ _))⟩)) | (go_at_call 16; (with_reducible refine (impl_ReadRow.calls t304 t306 t307 _ A16.out).mono ?_); rintro e w27 ⟨rfl, hb⟩; have n0_ := Aside0.mk (below_step (by repeat (first | (with_reducible first | exact HB.out | apply below_alloc | apply pw_below_drewN | apply below_drew1) | exact HB.out)) hb); clear HB; have HB := n0_; clear n0_; (try clear hb); (try clear hb2); (try clear hk); (try clear hi)) | (go_at_call 17; (with_reducible refine (impl_CoinValues.calls kj2 t292 10 t308 t309 _ (by first | ((repeat (first | exact HTT.out | apply RT.drewN | apply RT.drew)); done) | exact (HTT.out.on (by repeat (first | (with_reducible first | exact HB.out | apply below_alloc | apply pw_below_drewN | apply below_drew1) | exact HB.out)))) A17.out).mono ?_); rintro e w28 ⟨v310, rfl, ho0, hb⟩; have n0_ := Aside0.mk (Kd.R_lower ho0 (below_size (by repeat (first | (with_reducible first | exact HB.out | apply below_alloc | apply pw_below_drewN | apply below_drew1) | exact HB.out)))); have n1_ := Aside0.mk (below_step (by repeat (first | (with_reducible first | exact HB.out | apply below_alloc | apply pw_below_drewN | apply below_drew1) | exact HB.out)) hb); clear HB; have HO311 := n0_; have HB := n1_; clear n0_ n1_; (try clear hb); (try clear hb2); (try clear hk); (try clear hi); (try clear ho0)) | (go_at_call 18; (with_reducible refine (spec_CoinValues.calls kj2 t292 10 t312 t313 _ A18.out).mono ?_); rintro e w29 ⟨v314, rfl, ho0, hb⟩; have n0_ := Aside0.mk (Kd.R_elder' (by (with_reducible repeat (first | apply Kd.R_alloc | apply Kd.R_drewN | apply Kd.R_drew)); exact HO311.out) (Kd.R_base ho0) hb); have n1_ := Aside0.mk (Kd.R_lower (Kd.R_new' ho0 (Kd.R_lt (by (with_reducible repeat (first | apply Kd.R_alloc | apply Kd.R_drewN | apply Kd.R_drew)); exact HO311.out))) (below_size (by repeat (first | (with_reducible first | exact HB.out | apply below_alloc | apply pw_below_drewN | apply below_drew1) | exact HB.out)))); have n2_ := Aside0.mk (below_step (by repeat (first | (with_reducible first | exact HB.out | apply below_alloc | apply pw_below_drewN | apply below_drew1) | exact HB.out)) hb); clear HO311; clear HB; have HO311 := n0_; have HO315 := n1_; have HB := n2_; clear n0_ n1_ n2_; (try clear hb); (try clear hb2); (try clear hk); (try clear hi); (try clear ho0))))
 (try simp only [Act.put, List.setIfInBounds_toArray, List.set_cons_zero, List.set_cons_succ])
 go_cut [180] (fun v180 wc => ∃ (kq : Nat) (x180_18 : Bool), v180 = .bool x180_18 ∧ Aside0 (laws_FnRows.j1 kq l1 t292 t293 t299 t300 t312 x180_18 = some r) ∧ Aside0 (kq ≤ kj2) ∧ Aside0 (Kd.R (Kd.int .u16) 28 wc w.heap.size (fun _ => True) v314 t312) ∧ Aside0 (Below w.heap.size w wc))
 case first =>
  as_aux_lemma =>
  have H := HC19.out
  clear HC19
  by_cases c30 : t295 = t297
  rotate_left
  · rw [if_neg c30] at H
    exact absurd (H.trans (congrArg some ht_)) (laws_FnRows.j1_no _ _ _ _ _ _ _)
  rw [if_pos c30] at H
  have c30b0 : (t295 == t297) = true := beq_iff_eq.mpr c30
  have c30b1 : (t295 != t297) = false := bne_eq_false_iff_eq.mpr c30
  clear c30
  (first | rw [c30b0] | (simp only [i64_w, i32_w]; rw [c30b0]) | skip)
  by_cases c31 : t295 = 0
  rotate_left
  · rw [if_neg c31] at H
    exact absurd (H.trans (congrArg some ht_)) (laws_FnRows.j1_no _ _ _ _ _ _ _)
  rw [if_pos c31] at H
  have c31b0 : (t295 == 0) = true := beq_iff_eq.mpr c31
  have c31b1 : (t295 != 0) = false := bne_eq_false_iff_eq.mpr c31
  clear c31
  by_cases c32 : t294 = t296
  rotate_left
  · rw [if_neg c32] at H
    exact absurd (H.trans (congrArg some ht_)) (laws_FnRows.j1_no _ _ _ _ _ _ _)
  rw [if_pos c32] at H
  have c32b0 : (t294 == t296) = true := beq_iff_eq.mpr c32
  have c32b1 : (t294 != t296) = false := bne_eq_false_iff_eq.mpr c32
  clear c32
  by_cases c33 : t299 = t301
  rotate_left
  · rw [if_neg c33] at H
    exact absurd (H.trans (congrArg some ht_)) (laws_FnRows.j1_no _ _ _ _ _ _ _)
  rw [if_pos c33] at H
  have c33b0 : (t299 == t301) = true := beq_iff_eq.mpr c33
  have c33b1 : (t299 != t301) = false := bne_eq_false_iff_eq.mpr c33
  clear c33
  by_cases c34 : t298 = t300
  rotate_left
  · rw [if_neg c34] at H
    exact absurd (H.trans (congrArg some ht_)) (laws_FnRows.j1_no _ _ _ _ _ _ _)
  rw [if_pos c34] at H
  have c34b0 : (t298 == t300) = true := beq_iff_eq.mpr c34
  have c34b1 : (t298 != t300) = false := bne_eq_false_iff_eq.mpr c34
  clear c34
  by_cases c35 : t303 = 0
  rotate_left
  · rw [if_neg c35] at H
    exact absurd (H.trans (congrArg some ht_)) (laws_FnRows.j1_no _ _ _ _ _ _ _)
  rw [if_pos c35] at H
  have c35b0 : (t303 == 0) = true := beq_iff_eq.mpr c35
  have c35b1 : (t303 != 0) = false := bne_eq_false_iff_eq.mpr c35
  clear c35
  by_cases c36 : ((t299 == 0) != (t296 != 0)) = true
  · rw [if_pos c36] at H
    have c36b0 : ((t299 == 0) != (t296 != 0)) = true := c36
    (try (have c36b1 : decide ((t299 == 0) = (t296 != 0)) = false := by simpa using c36))
    (try (have c36b2 : ((t299 == 0) == (t296 != 0)) = false := by simpa using c36))
    (try (have c36b3 : ¬ ((t299 == 0) = (t296 != 0)) := by simpa using c36))
    exact absurd (H.trans (congrArg some ht_)) (laws_FnRows.j1_no _ _ _ _ _ _ _)
  rw [if_neg c36] at H
  have c36b0 : ((t299 == 0) != (t296 != 0)) = false := by simpa using c36
  (try (have c36b1 : decide ((t299 == 0) = (t296 != 0)) = true := by simpa using c36))
  (try (have c36b2 : ((t299 == 0) == (t296 != 0)) = true := by simpa using c36))
  clear c36
  by_cases c37 : ((decide (t302 > 0)) != (t296 != 0)) = true
  · rw [if_pos c37] at H
    have c37b0 : ((decide (t302 > 0)) != (t296 != 0)) = true := c37
    (try (have c37b1 : decide ((decide (t302 > 0)) = (t296 != 0)) = false := by simpa using c37))
    (try (have c37b2 : ((decide (t302 > 0)) == (t296 != 0)) = false := by simpa using c37))
    (try (have c37b3 : ¬ ((decide (t302 > 0)) = (t296 != 0)) := by simpa using c37))
    exact absurd (H.trans (congrArg some ht_)) (laws_FnRows.j1_no _ _ _ _ _ _ _)
  rw [if_neg c37] at H
  have c37b0 : ((decide (t302 > 0)) != (t296 != 0)) = false := by simpa using c37
  (try (have c37b1 : decide ((decide (t302 > 0)) = (t296 != 0)) = true := by simpa using c37))
  (try (have c37b2 : ((decide (t302 > 0)) == (t296 != 0)) = true := by simpa using c37))
  clear c37
  by_cases c38 : t305 = 0
  rotate_left
  · rw [if_neg c38] at H
    exact absurd (H.trans (congrArg some ht_)) (laws_FnRows.j1_no _ _ _ _ _ _ _)
  rw [if_pos c38] at H
  have c38b0 : (t305 == 0) = true := beq_iff_eq.mpr c38
  have c38b1 : (t305 != 0) = false := bne_eq_false_iff_eq.mpr c38
  clear c38
  by_cases c39 : t307 = 0
  rotate_left
  · rw [if_neg c39] at H
    exact absurd (H.trans (congrArg some ht_)) (laws_FnRows.j1_no _ _ _ _ _ _ _)
  rw [if_pos c39] at H
  have c39b0 : (t307 == 0) = true := beq_iff_eq.mpr c39
  have c39b1 : (t307 != 0) = false := bne_eq_false_iff_eq.mpr c39
  clear c39
  by_cases c40 : t306 = t293
  rotate_left
  · rw [if_neg c40] at H
    exact absurd (H.trans (congrArg some ht_)) (laws_FnRows.j1_no _ _ _ _ _ _ _)
  rw [if_pos c40] at H
  have c40b0 : (t306 == t293) = true := beq_iff_eq.mpr c40
  have c40b1 : (t306 != t293) = false := bne_eq_false_iff_eq.mpr c40
  clear c40
  by_cases c41 : t309 = t313
  rotate_left
  · rw [if_neg c41] at H
    exact absurd (H.trans (congrArg some ht_)) (laws_FnRows.j1_no _ _ _ _ _ _ _)
  rw [if_pos c41] at H
  have c41b0 : (t309 == t313) = true := beq_iff_eq.mpr c41
  have c41b1 : (t309 != t313) = false := bne_eq_false_iff_eq.mpr c41
  clear c41
  by_cases c42 : t309 = 0
  rotate_left
  · rw [if_neg c42] at H
    exact absurd (H.trans (congrArg some ht_)) (laws_FnRows.j1_no _ _ _ _ _ _ _)
  rw [if_pos c42] at H
  have c42b0 : (t309 == 0) = true := beq_iff_eq.mpr c42
  have c42b1 : (t309 != 0) = false := bne_eq_false_iff_eq.mpr c42
  clear c42
  replace H := Option.bind_eq_some_iff.mp H
  obtain ⟨t316, A430, H⟩ := H
  replace H : (if t316 = true then (laws_FnRows.j1 kj2 l1 t292 t293 t299 t300 t312 ((t312.length : Int) != 10)) else (laws_FnRows.j1 kj2 l1 t292 t293 t299 t300 t312 true)) = some r := H
  have A43 := Aside0.mk A430
  clear A430
  by_cases c44 : t316 = true
  · subst c44
    have H1 : (laws_FnRows.j1 kj2 l1 t292 t293 t299 t300 t312 ((t312.length : Int) != 10)) = some r := by rw [if_pos rfl] at H; exact H
    clear H
    have H := H1
    clear H1
    have H' := Aside0.mk H
    clear H
    obtain ⟨Ao45, co45, eo45⟩ := Kd.R_slice HO311.out
    subst eo45
    obtain ⟨Ao46, co46, eo46⟩ := Kd.R_slice HO315.out
    subst eo46
    go_wp2_with (first | (go_at_call 19; (with_reducible refine (spec_SameNims.calls kj2 _ _ t308 _ _ t312 true _ ?side1 ?side2 ?side3 ?side4 A43.out).mono ?_); (case side1 => repeat (first | exact (Kd.R_reads' HO311.out).2.2 | (with_reducible refine Kd.C_alloc ?_ _) | (with_reducible refine Kd.C_drewN ?_ _) | (with_reducible refine Kd.C_drew ?_))); (case side2 => exact (Kd.R_reads' HO311.out).2.1); (case side3 => repeat (first | exact (Kd.R_reads' HO315.out).2.2 | (with_reducible refine Kd.C_alloc ?_ _) | (with_reducible refine Kd.C_drewN ?_ _) | (with_reducible refine Kd.C_drew ?_))); (case side4 => exact (Kd.R_reads' HO315.out).2.1); rintro e w' ⟨rfl, ⟨nd, rfl⟩⟩; (try first | exact ⟨rfl, _, World.drewN_drewN _ _ _⟩ | exact ⟨rfl, _, Eq.trans (World.drewN_drewN _ _ _) (congrArg (World.drewN _) (Nat.add_assoc _ _ _))⟩)))
    repeat (go_quiet (first | (go_at_call 19; (with_reducible refine (spec_SameNims.calls kj2 _ _ t308 _ _ t312 true _ ?side1 ?side2 ?side3 ?side4 A43.out).mono ?_); (case side1 => repeat (first | exact (Kd.R_reads' HO311.out).2.2 | (with_reducible refine Kd.C_alloc ?_ _) | (with_reducible refine Kd.C_drewN ?_ _) | (with_reducible refine Kd.C_drew ?_))); (case side2 => exact (Kd.R_reads' HO311.out).2.1); (case side3 => repeat (first | exact (Kd.R_reads' HO315.out).2.2 | (with_reducible refine Kd.C_alloc ?_ _) | (with_reducible refine Kd.C_drewN ?_ _) | (with_reducible refine Kd.C_drew ?_))); (case side4 => exact (Kd.R_reads' HO315.out).2.1); rintro e w' ⟨rfl, ⟨nd, rfl⟩⟩; (try first | exact ⟨rfl, _, World.drewN_drewN _ _ _⟩ | exact ⟨rfl, _, Eq.trans (World.drewN_drewN _ _ _) (congrArg (World.drewN _) (Nat.add_assoc _ _ _))⟩))); try go_wp2_with (first | (go_at_call 19; (with_reducible refine (spec_SameNims.calls kj2 _ _ t308 _ _ t312 true _ ?side1 ?side2 ?side3 ?side4 A43.out).mono ?_); (case side1 => repeat (first | exact (Kd.R_reads' HO311.out).2.2 | (with_reducible refine Kd.C_alloc ?_ _) | (with_reducible refine Kd.C_drewN ?_ _) | (with_reducible refine Kd.C_drew ?_))); (case side2 => exact (Kd.R_reads' HO311.out).2.1); (case side3 => repeat (first | exact (Kd.R_reads' HO315.out).2.2 | (with_reducible refine Kd.C_alloc ?_ _) | (with_reducible refine Kd.C_drewN ?_ _) | (with_reducible refine Kd.C_drew ?_))); (case side4 => exact (Kd.R_reads' HO315.out).2.1); rintro e w' ⟨rfl, ⟨nd, rfl⟩⟩; (try first | exact ⟨rfl, _, World.drewN_drewN _ _ _⟩ | exact ⟨rfl, _, Eq.trans (World.drewN_drewN _ _ _) (congrArg (World.drewN _) (Nat.add_assoc _ _ _))⟩))))
    go_meet
    case rel => exact ⟨_, (((t312.length : Int) != 10)), (by first | rfl | (simp; done) | (simp [*]; done)), H', ⟨by have := HJ2.out; first | omega | exact Nat.le_refl _⟩, ⟨by (with_reducible repeat (first | apply Kd.R_alloc | apply Kd.R_drewN | apply Kd.R_drew)); exact Kd.R_mono HO315.out (fun _ hk => trivial)⟩, ⟨by repeat (first | (with_reducible first | exact HB.out | apply below_alloc | apply pw_below_drewN | apply below_drew1) | exact HB.out)⟩⟩
  replace c44 := Bool.eq_false_iff.mpr c44
  subst c44
  have H1 : (laws_FnRows.j1 kj2 l1 t292 t293 t299 t300 t312 true) = some r := by rw [if_neg (show ¬ (false = true) by decide)] at H; exact H
  clear H
  have H := H1
  clear H1
  exact absurd (H.trans (congrArg some ht_)) (laws_FnRows.j1_no _ _ _ _ _ _ _)
 case rest =>
 as_aux_lemma =>
 clear HC19
 try clear c1
 try clear p2
 try clear c3
 try clear c4
 try clear c5
 try clear c7
 try clear c30
 try clear c30b0
 try clear c30b1
 try clear c31
 try clear c31b0
 try clear c31b1
 try clear c32
 try clear c32b0
 try clear c32b1
 try clear c33
 try clear c33b0
 try clear c33b1
 try clear c34
 try clear c34b0
 try clear c34b1
 try clear c35
 try clear c35b0
 try clear c35b1
 try clear c36
 try clear c36b0
 try clear c36b1
 try clear c36b2
 try clear c37
 try clear c37b0
 try clear c37b1
 try clear c37b2
 try clear c38
 try clear c38b0
 try clear c38b1
 try clear c39
 try clear c39b0
 try clear c39b1
 try clear c40
 try clear c40b0
 try clear c40b1
 try clear c41
 try clear c41b0
 try clear c41b1
 try clear c42
 try clear c42b0
 try clear c42b1
 try clear c44
 try clear p2
 obtain ⟨kq, x180_18, rfl, HA, HJ18, HO_23, HB⟩ := hcut
 cases kq with
 | zero => exact absurd HA.out (by simp [laws_FnRows.j1])
 | succ kj18 =>
 have H := HA.out
 clear HA
 simp only [laws_FnRows.j1] at H
 by_cases c49 : x180_18 = true
 · subst c49
   have H1 : (some false) = some r := by rw [if_pos rfl] at H; exact H
   clear H
   have H := H1
   clear H1
   obtain rfl := Option.some.inj H
   exact absurd ht_ (by decide)
 replace c49 := Bool.eq_false_iff.mpr c49
 subst c49
 have H1 : (if t299 = 0 then ((impl_MayTurn.f kj18 t292 t300).bind fun bt317 => ((impl_TurnRow.f kj18 t292 t293 t300).bind fun bt319 => ((impl_RowValue.f kj18 t292 (Go.bits .xor .u32 t293 t300)).bind fun bt321 => ((impl_CountWinningTurns.f kj18 t292 (Go.bits .xor .u32 t293 t300)).bind fun bt323 => (if bt317.2 = 0 then (if bt317.1 = true then (if bt319.2 = 0 then (if bt319.1 = (Go.bits .xor .u32 t293 t300) then (if bt321.2 = 0 then (if bt321.1 = 0 then (if bt323.2 = 0 then (if bt323.1 = 0 then (laws_FnRows.j2 kj18 l1 t292 t312) else (some false)) else (some false)) else (some false)) else (some false)) else (some false)) else (some false)) else (some false)) else (some false)))))) else (if t299 = 6 then (laws_FnRows.j2 kj18 l1 t292 t312) else (some false))) = some r := by rw [if_neg (show ¬ (false = true) by decide)] at H; exact H
 clear H
 have H := H1
 clear H1
 have HC50 := Aside0.mk H
 clear H
 go_upto_if 182 with (fail)
 repeat (go_quiet (fail); go_upto_if 182 with (fail))
 go_cut [] (fun wc => ∃ (kq : Nat), Aside0 (laws_FnRows.j2 kq l1 t292 t312 = some r) ∧ Aside0 (kq ≤ kj18) ∧ Aside0 (Kd.R (Kd.int .u16) 28 wc w.heap.size (fun _ => True) v314 t312) ∧ Aside0 (Below w.heap.size w wc))
 case first =>
  as_aux_lemma =>
  have H := HC50.out
  clear HC50
  by_cases c51 : t299 = 0
  rotate_left
  · rw [if_neg c51] at H
    have c51b0 : (t299 == 0) = false := beq_eq_false_iff_ne.mpr c51
    have c51b1 : (t299 != 0) = true := bne_iff_ne.mpr c51
    (first | rw [c51b0] | (simp only [i64_w, i32_w]; rw [c51b0]) | skip)
    by_cases c82 : t299 = 6
    rotate_left
    · rw [if_neg c82] at H
      have c82b0 : (t299 == 6) = false := beq_eq_false_iff_ne.mpr c82
      have c82b1 : (t299 != 6) = true := bne_iff_ne.mpr c82
      obtain rfl := Option.some.inj H
      exact absurd ht_ (by decide)
    rw [if_pos c82] at H
    have c82b0 : (t299 == 6) = true := beq_iff_eq.mpr c82
    have c82b1 : (t299 != 6) = false := bne_eq_false_iff_eq.mpr c82
    clear c82
    have H' := Aside0.mk H
    clear H
    go_wp2
    repeat (go_quiet (fail); try go_wp2)
    go_meet
    case rel => exact ⟨_, H', ⟨by have := HJ2.out; have := HJ18.out; first | omega | exact Nat.le_refl _⟩, ⟨by (with_reducible repeat (first | apply Kd.R_alloc | apply Kd.R_drewN | apply Kd.R_drew)); exact HO_23.out⟩, ⟨by repeat (first | (with_reducible first | exact HB.out | apply below_alloc | apply pw_below_drewN | apply below_drew1) | exact HB.out)⟩⟩
  rw [if_pos c51] at H
  have c51b0 : (t299 == 0) = true := beq_iff_eq.mpr c51
  have c51b1 : (t299 != 0) = false := bne_eq_false_iff_eq.mpr c51
  clear c51
  (first | rw [c51b0] | (simp only [i64_w, i32_w]; rw [c51b0]) | skip)
  replace H := Option.bind_eq_some_iff.mp H
  obtain ⟨⟨t317, t318⟩, A520, H⟩ := H
  replace H : ((impl_TurnRow.f kj18 t292 t293 t300).bind fun bt319 => ((impl_RowValue.f kj18 t292 (Go.bits .xor .u32 t293 t300)).bind fun bt321 => ((impl_CountWinningTurns.f kj18 t292 (Go.bits .xor .u32 t293 t300)).bind fun bt323 => (if t318 = 0 then (if t317 = true then (if bt319.2 = 0 then (if bt319.1 = (Go.bits .xor .u32 t293 t300) then (if bt321.2 = 0 then (if bt321.1 = 0 then (if bt323.2 = 0 then (if bt323.1 = 0 then (laws_FnRows.j2 kj18 l1 t292 t312) else (some false)) else (some false)) else (some false)) else (some false)) else (some false)) else (some false)) else (some false)) else (some false))))) = some r := H
  have A52 := Aside0.mk A520
  clear A520
  replace H := Option.bind_eq_some_iff.mp H
  obtain ⟨⟨t319, t320⟩, A530, H⟩ := H
  replace H : ((impl_RowValue.f kj18 t292 (Go.bits .xor .u32 t293 t300)).bind fun bt321 => ((impl_CountWinningTurns.f kj18 t292 (Go.bits .xor .u32 t293 t300)).bind fun bt323 => (if t318 = 0 then (if t317 = true then (if t320 = 0 then (if t319 = (Go.bits .xor .u32 t293 t300) then (if bt321.2 = 0 then (if bt321.1 = 0 then (if bt323.2 = 0 then (if bt323.1 = 0 then (laws_FnRows.j2 kj18 l1 t292 t312) else (some false)) else (some false)) else (some false)) else (some false)) else (some false)) else (some false)) else (some false)) else (some false)))) = some r := H
  have A53 := Aside0.mk A530
  clear A530
  replace H := Option.bind_eq_some_iff.mp H
  obtain ⟨⟨t321, t322⟩, A540, H⟩ := H
  replace H : ((impl_CountWinningTurns.f kj18 t292 (Go.bits .xor .u32 t293 t300)).bind fun bt323 => (if t318 = 0 then (if t317 = true then (if t320 = 0 then (if t319 = (Go.bits .xor .u32 t293 t300) then (if t322 = 0 then (if t321 = 0 then (if bt323.2 = 0 then (if bt323.1 = 0 then (laws_FnRows.j2 kj18 l1 t292 t312) else (some false)) else (some false)) else (some false)) else (some false)) else (some false)) else (some false)) else (some false)) else (some false))) = some r := H
  have A54 := Aside0.mk A540
  clear A540
  replace H := Option.bind_eq_some_iff.mp H
  obtain ⟨⟨t323, t324⟩, A550, H⟩ := H
  replace H : (if t318 = 0 then (if t317 = true then (if t320 = 0 then (if t319 = (Go.bits .xor .u32 t293 t300) then (if t322 = 0 then (if t321 = 0 then (if t324 = 0 then (if t323 = 0 then (laws_FnRows.j2 kj18 l1 t292 t312) else (some false)) else (some false)) else (some false)) else (some false)) else (some false)) else (some false)) else (some false)) else (some false)) = some r := H
  have A55 := Aside0.mk A550
  clear A550
  by_cases c56 : t318 = 0
  rotate_left
  · rw [if_neg c56] at H
    have c56b0 : (t318 == 0) = false := beq_eq_false_iff_ne.mpr c56
    have c56b1 : (t318 != 0) = true := bne_iff_ne.mpr c56
    obtain rfl := Option.some.inj H
    exact absurd ht_ (by decide)
  rw [if_pos c56] at H
  have c56b0 : (t318 == 0) = true := beq_iff_eq.mpr c56
  have c56b1 : (t318 != 0) = false := bne_eq_false_iff_eq.mpr c56
  clear c56
  by_cases c57 : t317 = true
  rotate_left
  · replace c57 := Bool.eq_false_iff.mpr c57
    subst c57
    have H1 : (some false) = some r := by rw [if_neg (show ¬ (false = true) by decide)] at H; exact H
    clear H
    have H := H1
    clear H1
    obtain rfl := Option.some.inj H
    exact absurd ht_ (by decide)
  subst c57
  have H1 : (if t320 = 0 then (if t319 = (Go.bits .xor .u32 t293 t300) then (if t322 = 0 then (if t321 = 0 then (if t324 = 0 then (if t323 = 0 then (laws_FnRows.j2 kj18 l1 t292 t312) else (some false)) else (some false)) else (some false)) else (some false)) else (some false)) else (some false)) = some r := by rw [if_pos rfl] at H; exact H
  clear H
  have H := H1
  clear H1
  by_cases c58 : t320 = 0
  rotate_left
  · rw [if_neg c58] at H
    have c58b0 : (t320 == 0) = false := beq_eq_false_iff_ne.mpr c58
    have c58b1 : (t320 != 0) = true := bne_iff_ne.mpr c58
    obtain rfl := Option.some.inj H
    exact absurd ht_ (by decide)
  rw [if_pos c58] at H
  have c58b0 : (t320 == 0) = true := beq_iff_eq.mpr c58
  have c58b1 : (t320 != 0) = false := bne_eq_false_iff_eq.mpr c58
  clear c58
  by_cases c59 : t319 = (Go.bits .xor .u32 t293 t300)
  rotate_left
  · rw [if_neg c59] at H
    have c59b0 : (t319 == (Go.bits .xor .u32 t293 t300)) = false := beq_eq_false_iff_ne.mpr c59
    have c59b1 : (t319 != (Go.bits .xor .u32 t293 t300)) = true := bne_iff_ne.mpr c59
    obtain rfl := Option.some.inj H
    exact absurd ht_ (by decide)
  rw [if_pos c59] at H
  have c59b0 : (t319 == (Go.bits .xor .u32 t293 t300)) = true := beq_iff_eq.mpr c59
  have c59b1 : (t319 != (Go.bits .xor .u32 t293 t300)) = false := bne_eq_false_iff_eq.mpr c59
  clear c59
  by_cases c60 : t322 = 0
  rotate_left
  · rw [if_neg c60] at H
    have c60b0 : (t322 == 0) = false := beq_eq_false_iff_ne.mpr c60
    have c60b1 : (t322 != 0) = true := bne_iff_ne.mpr c60
    obtain rfl := Option.some.inj H
    exact absurd ht_ (by decide)
  rw [if_pos c60] at H
  have c60b0 : (t322 == 0) = true := beq_iff_eq.mpr c60
  have c60b1 : (t322 != 0) = false := bne_eq_false_iff_eq.mpr c60
  clear c60
  by_cases c61 : t321 = 0
  rotate_left
  · rw [if_neg c61] at H
    have c61b0 : (t321 == 0) = false := beq_eq_false_iff_ne.mpr c61
    have c61b1 : (t321 != 0) = true := bne_iff_ne.mpr c61
    obtain rfl := Option.some.inj H
    exact absurd ht_ (by decide)
  rw [if_pos c61] at H
  have c61b0 : (t321 == 0) = true := beq_iff_eq.mpr c61
  have c61b1 : (t321 != 0) = false := bne_eq_false_iff_eq.mpr c61
  clear c61
  by_cases c62 : t324 = 0
  rotate_left
  · rw [if_neg c62] at H
    have c62b0 : (t324 == 0) = false := beq_eq_false_iff_ne.mpr c62
    have c62b1 : (t324 != 0) = true := bne_iff_ne.mpr c62
    obtain rfl := Option.some.inj H
    exact absurd ht_ (by decide)
  rw [if_pos c62] at H
  have c62b0 : (t324 == 0) = true := beq_iff_eq.mpr c62
  have c62b1 : (t324 != 0) = false := bne_eq_false_iff_eq.mpr c62
  clear c62
  by_cases c63 : t323 = 0
  rotate_left
  · rw [if_neg c63] at H
    have c63b0 : (t323 == 0) = false := beq_eq_false_iff_ne.mpr c63
    have c63b1 : (t323 != 0) = true := bne_iff_ne.mpr c63
    obtain rfl := Option.some.inj H
    exact absurd ht_ (by decide)
  rw [if_pos c63] at H
  have c63b0 : (t323 == 0) = true := beq_iff_eq.mpr c63
  have c63b1 : (t323 != 0) = false := bne_eq_false_iff_eq.mpr c63
  clear c63
  have H' := Aside0.mk H
  clear H
  go_wp2_with (first | (go_at_call 20; (with_reducible refine (impl_MayTurn.calls kj18 t292 t300 true t318 _ (by first | ((repeat (first | exact HTT.out | apply RT.drewN | apply RT.drew)); done) | exact (HTT.out.on (by repeat (first | (with_reducible first | exact HB.out | apply below_alloc | apply pw_below_drewN | apply below_drew1) | exact HB.out)))) A52.out).mono ?_); rintro e w' ⟨rfl, ⟨nd, rfl⟩⟩; (try first | exact ⟨rfl, _, World.drewN_drewN _ _ _⟩ | exact ⟨rfl, _, Eq.trans (World.drewN_drewN _ _ _) (congrArg (World.drewN _) (Nat.add_assoc _ _ _))⟩)) | (go_at_call 21; (with_reducible refine (impl_TurnRow.calls kj18 t292 t293 t300 t319 t320 _ (by first | ((repeat (first | exact HTT.out | apply RT.drewN | apply RT.drew)); done) | exact (HTT.out.on (by repeat (first | (with_reducible first | exact HB.out | apply below_alloc | apply pw_below_drewN | apply below_drew1) | exact HB.out)))) A53.out).mono ?_); rintro e w' ⟨rfl, ⟨nd, rfl⟩⟩; (try first | exact ⟨rfl, _, World.drewN_drewN _ _ _⟩ | exact ⟨rfl, _, Eq.trans (World.drewN_drewN _ _ _) (congrArg (World.drewN _) (Nat.add_assoc _ _ _))⟩)) | (go_at_call 10; (with_reducible refine (impl_RowValue.calls kj18 t292 (Go.bits .xor .u32 t293 t300) t321 t322 _ (by first | ((repeat (first | exact HTT.out | apply RT.drewN | apply RT.drew)); done) | exact (HTT.out.on (by repeat (first | (with_reducible first | exact HB.out | apply below_alloc | apply pw_below_drewN | apply below_drew1) | exact HB.out)))) A54.out).mono ?_); rintro e w64 ⟨rfl, hb⟩; have n0_ := Aside0.mk (Kd.R_below (by (with_reducible repeat (first | apply Kd.R_alloc | apply Kd.R_drewN | apply Kd.R_drew)); exact HO_23.out) hb); have n1_ := Aside0.mk (below_step (by repeat (first | (with_reducible first | exact HB.out | apply below_alloc | apply pw_below_drewN | apply below_drew1) | exact HB.out)) hb); clear HO_23; clear HB; have HO_23 := n0_; have HB := n1_; clear n0_ n1_; (try clear hb); (try clear hb2); (try clear hk); (try clear hi)) | (go_at_call 14; (with_reducible refine (impl_CountWinningTurns.calls kj18 t292 (Go.bits .xor .u32 t293 t300) t323 t324 _ (by first | ((repeat (first | exact HTT.out | apply RT.drewN | apply RT.drew)); done) | exact (HTT.out.on (by repeat (first | (with_reducible first | exact HB.out | apply below_alloc | apply pw_below_drewN | apply below_drew1) | exact HB.out)))) A55.out).mono ?_); rintro e w65 ⟨rfl, hb⟩; have n0_ := Aside0.mk (Kd.R_below (by (with_reducible repeat (first | apply Kd.R_alloc | apply Kd.R_drewN | apply Kd.R_drew)); exact HO_23.out) hb); have n1_ := Aside0.mk (below_step (by repeat (first | (with_reducible first | exact HB.out | apply below_alloc | apply pw_below_drewN | apply below_drew1) | exact HB.out)) hb); clear HO_23; clear HB; have HO_23 := n0_; have HB := n1_; clear n0_ n1_; (try clear hb); (try clear hb2); (try clear hk); (try clear hi)))
  repeat (go_quiet (first | (go_at_call 20; (with_reducible refine (impl_MayTurn.calls kj18 t292 t300 true t318 _ (by first | ((repeat (first | exact HTT.out | apply RT.drewN | apply RT.drew)); done) | exact (HTT.out.on (by repeat (first | (with_reducible first | exact HB.out | apply below_alloc | apply pw_below_drewN | apply below_drew1) | exact HB.out)))) A52.out).mono ?_); rintro e w' ⟨rfl, ⟨nd, rfl⟩⟩; (try first | exact ⟨rfl, _, World.drewN_drewN _ _ _⟩ | exact ⟨rfl, _, Eq.trans (World.drewN_drewN _ _ _) (congrArg (World.drewN _) (Nat.add_assoc _ _ _))⟩)) | (go_at_call 21; (with_reducible refine (impl_TurnRow.calls kj18 t292 t293 t300 t319 t320 _ (by first | ((repeat (first | exact HTT.out | apply RT.drewN | apply RT.drew)); done) | exact (HTT.out.on (by repeat (first | (with_reducible first | exact HB.out | apply below_alloc | apply pw_below_drewN | apply below_drew1) | exact HB.out)))) A53.out).mono ?_); rintro e w' ⟨rfl, ⟨nd, rfl⟩⟩; (try first | exact ⟨rfl, _, World.drewN_drewN _ _ _⟩ | exact ⟨rfl, _, Eq.trans (World.drewN_drewN _ _ _) (congrArg (World.drewN _) (Nat.add_assoc _ _ _))⟩)) | (go_at_call 10; (with_reducible refine (impl_RowValue.calls kj18 t292 (Go.bits .xor .u32 t293 t300) t321 t322 _ (by first | ((repeat (first | exact HTT.out | apply RT.drewN | apply RT.drew)); done) | exact (HTT.out.on (by repeat (first | (with_reducible first | exact HB.out | apply below_alloc | apply pw_below_drewN | apply below_drew1) | exact HB.out)))) A54.out).mono ?_); rintro e w64 ⟨rfl, hb⟩; have n0_ := Aside0.mk (Kd.R_below (by (with_reducible repeat (first | apply Kd.R_alloc | apply Kd.R_drewN | apply Kd.R_drew)); exact HO_23.out) hb); have n1_ := Aside0.mk (below_step (by repeat (first | (with_reducible first | exact HB.out | apply below_alloc | apply pw_below_drewN | apply below_drew1) | exact HB.out)) hb); clear HO_23; clear HB; have HO_23 := n0_; have HB := n1_; clear n0_ n1_; (try clear hb); (try clear hb2); (try clear hk); (try clear hi)) | (go_at_call 14; (with_reducible refine (impl_CountWinningTurns.calls kj18 t292 (Go.bits .xor .u32 t293 t300) t323 t324 _ (by first | ((repeat (first | exact HTT.out | apply RT.drewN | apply RT.drew)); done) | exact (HTT.out.on (by repeat (first | (with_reducible first | exact HB.out | apply below_alloc | apply pw_below_drewN | apply below_drew1) | exact HB.out)))) A55.out).mono ?_); rintro e w65 ⟨rfl, hb⟩; have n0_ := Aside0.mk (Kd.R_below (by (with_reducible repeat (first | apply Kd.R_alloc | apply Kd.R_drewN | apply Kd.R_drew)); exact HO_23.out) hb); have n1_ := Aside0.mk (below_step (by repeat (first | (with_reducible first | exact HB.out | apply below_alloc | apply pw_below_drewN | apply below_drew1) | exact HB.out)) hb); clear HO_23; clear HB; have HO_23 := n0_; have HB := n1_; clear n0_ n1_; (try clear hb); (try clear hb2); (try clear hk); (try clear hi))); try go_wp2_with (first | (go_at_call 20; (with_reducible refine (impl_MayTurn.calls kj18 t292 t300 true t318 _ (by first | ((repeat (first | exact HTT.out | apply RT.drewN | apply RT.drew)); done) | exact (HTT.out.on (by repeat (first | (with_reducible first | exact HB.out | apply below_alloc | apply pw_below_drewN | apply below_drew1) | exact HB.out)))) A52.out).mono ?_); rintro e w' ⟨rfl, ⟨nd, rfl⟩⟩; (try first | exact ⟨rfl, _, World.drewN_drewN _ _ _⟩ | exact ⟨rfl, _, Eq.trans (World.drewN_drewN _ _ _) (congrArg (World.drewN _) (Nat.add_assoc _ _ _))⟩)) | (go_at_call 21; (with_reducible refine (impl_TurnRow.calls kj18 t292 t293 t300 t319 t320 _ (by first | ((repeat (first | exact HTT.out | apply RT.drewN | apply RT.drew)); done) | exact (HTT.out.on (by repeat (first | (with_reducible first | exact HB.out | apply below_alloc | apply pw_below_drewN | apply below_drew1) | exact HB.out)))) A53.out).mono ?_); rintro e w' ⟨rfl, ⟨nd, rfl⟩⟩; (try first | exact ⟨rfl, _, World.drewN_drewN _ _ _⟩ | exact ⟨rfl, _, Eq.trans (World.drewN_drewN _ _ _) (congrArg (World.drewN _) (Nat.add_assoc _ _ _))⟩)) | (go_at_call 10; (with_reducible refine (impl_RowValue.calls kj18 t292 (Go.bits .xor .u32 t293 t300) t321 t322 _ (by first | ((repeat (first | exact HTT.out | apply RT.drewN | apply RT.drew)); done) | exact (HTT.out.on (by repeat (first | (with_reducible first | exact HB.out | apply below_alloc | apply pw_below_drewN | apply below_drew1) | exact HB.out)))) A54.out).mono ?_); rintro e w64 ⟨rfl, hb⟩; have n0_ := Aside0.mk (Kd.R_below (by (with_reducible repeat (first | apply Kd.R_alloc | apply Kd.R_drewN | apply Kd.R_drew)); exact HO_23.out) hb); have n1_ := Aside0.mk (below_step (by repeat (first | (with_reducible first | exact HB.out | apply below_alloc | apply pw_below_drewN | apply below_drew1) | exact HB.out)) hb); clear HO_23; clear HB; have HO_23 := n0_; have HB := n1_; clear n0_ n1_; (try clear hb); (try clear hb2); (try clear hk); (try clear hi)) | (go_at_call 14; (with_reducible refine (impl_CountWinningTurns.calls kj18 t292 (Go.bits .xor .u32 t293 t300) t323 t324 _ (by first | ((repeat (first | exact HTT.out | apply RT.drewN | apply RT.drew)); done) | exact (HTT.out.on (by repeat (first | (with_reducible first | exact HB.out | apply below_alloc | apply pw_below_drewN | apply below_drew1) | exact HB.out)))) A55.out).mono ?_); rintro e w65 ⟨rfl, hb⟩; have n0_ := Aside0.mk (Kd.R_below (by (with_reducible repeat (first | apply Kd.R_alloc | apply Kd.R_drewN | apply Kd.R_drew)); exact HO_23.out) hb); have n1_ := Aside0.mk (below_step (by repeat (first | (with_reducible first | exact HB.out | apply below_alloc | apply pw_below_drewN | apply below_drew1) | exact HB.out)) hb); clear HO_23; clear HB; have HO_23 := n0_; have HB := n1_; clear n0_ n1_; (try clear hb); (try clear hb2); (try clear hk); (try clear hi))))
  go_meet
  case rel => exact ⟨_, H', ⟨by have := HJ2.out; have := HJ18.out; first | omega | exact Nat.le_refl _⟩, ⟨by (with_reducible repeat (first | apply Kd.R_alloc | apply Kd.R_drewN | apply Kd.R_drew)); exact HO_23.out⟩, ⟨by repeat (first | (with_reducible first | exact HB.out | apply below_alloc | apply pw_below_drewN | apply below_drew1) | exact HB.out)⟩⟩
 case rest =>
 as_aux_lemma =>
 clear HC50
 try clear c1
 try clear p2
 try clear c3
 try clear c4
 try clear c5
 try clear c6
 try clear c7
 try clear c8
 try clear c30
 try clear c30b0
 try clear c30b1
 try clear c31
 try clear c31b0
 try clear c31b1
 try clear c32
 try clear c32b0
 try clear c32b1
 try clear c33
 try clear c33b0
 try clear c33b1
 try clear c34
 try clear c34b0
 try clear c34b1
 try clear c35
 try clear c35b0
 try clear c35b1
 try clear c36
 try clear c36b0
 try clear c36b1
 try clear c36b2
 try clear c37
 try clear c37b0
 try clear c37b1
 try clear c37b2
 try clear c38
 try clear c38b0
 try clear c38b1
 try clear c39
 try clear c39b0
 try clear c39b1
 try clear c40
 try clear c40b0
 try clear c40b1
 try clear c41
 try clear c41b0
 try clear c41b1
 try clear c42
 try clear c42b0
 try clear c42b1
 try clear c44
 try clear c49
 try clear c51
 try clear c51b0
 try clear c51b1
 try clear c56
 try clear c56b0
 try clear c56b1
 try clear c57
 try clear c58
 try clear c58b0
 try clear c58b1
 try clear c59
 try clear c59b0
 try clear c59b1
 try clear c60
 try clear c60b0
 try clear c60b1
 try clear c61
 try clear c61b0
 try clear c61b1
 try clear c62
 try clear c62b0
 try clear c62b1
 try clear c63
 try clear c63b0
 try clear c63b1
 try clear c82
 try clear c82b0
 try clear c82b1
 try clear p2
 obtain ⟨kq, HA, HJ49, HO_23, HB⟩ := hcut
 cases kq with
 | zero => exact absurd HA.out (by simp [laws_FnRows.j2])
 | succ kj49 =>
 have H := HA.out
 clear HA
 simp only [laws_FnRows.j2] at H
 replace H := Option.bind_eq_some_iff.mp H
 obtain ⟨t325, A830, H⟩ := H
 replace H : ((impl_TurnsAt.f t292 t325).bind fun bt326 => ((spec_TurnsAt.f kj49 t292 t325).bind fun bt330 => (if bt326.2 = bt330.2 then (if bt326.2 = 0 then ((spec_SameTurns.f kj49 bt326.1 bt330.1).bind fun t334 => (laws_FnRows.j3 kj49 t292 t312 t325 bt330.1 (!t334))) else (laws_FnRows.j3 kj49 t292 t312 t325 bt330.1 true)) else (laws_FnRows.j3 kj49 t292 t312 t325 bt330.1 true)))) = some r := H
 have A83 := Aside0.mk A830
 clear A830
 replace H := Option.bind_eq_some_iff.mp H
 obtain ⟨⟨t326, t327⟩, A840, H⟩ := H
 replace H : ((spec_TurnsAt.f kj49 t292 t325).bind fun bt330 => (if t327 = bt330.2 then (if t327 = 0 then ((spec_SameTurns.f kj49 t326 bt330.1).bind fun t334 => (laws_FnRows.j3 kj49 t292 t312 t325 bt330.1 (!t334))) else (laws_FnRows.j3 kj49 t292 t312 t325 bt330.1 true)) else (laws_FnRows.j3 kj49 t292 t312 t325 bt330.1 true))) = some r := H
 have A84 := Aside0.mk A840
 clear A840
 replace H := Option.bind_eq_some_iff.mp H
 obtain ⟨⟨t330, t331⟩, A850, H⟩ := H
 replace H : (if t327 = t331 then (if t327 = 0 then ((spec_SameTurns.f kj49 t326 t330).bind fun t334 => (laws_FnRows.j3 kj49 t292 t312 t325 t330 (!t334))) else (laws_FnRows.j3 kj49 t292 t312 t325 t330 true)) else (laws_FnRows.j3 kj49 t292 t312 t325 t330 true)) = some r := H
 have A85 := Aside0.mk A850
 clear A850
 have HC86 := Aside0.mk H
 clear H
 go_upto_region 28 with (first | (go_at_call 8; (with_reducible refine (spec_P6Pick.calls _ _ l1 10 t325 _ ?side1 ?side2 A83.out).mono ?_); (case side1 => repeat (first | exact (Kd.C_below HR1.out HB.out) | (with_reducible refine Kd.C_alloc ?_ _) | (with_reducible refine Kd.C_drewN ?_ _) | (with_reducible refine Kd.C_drew ?_))); (case side2 => exact HC1.out); rintro e w87 ⟨rfl, hb⟩; have n0_ := Aside0.mk (Kd.R_below (by (with_reducible repeat (first | apply Kd.R_alloc | apply Kd.R_drewN | apply Kd.R_drew)); exact HO_23.out) hb); have n1_ := Aside0.mk (below_step (by repeat (first | (with_reducible first | exact HB.out | apply below_alloc | apply pw_below_drewN | apply below_drew1) | exact HB.out)) hb); clear HO_23; clear HB; have HO_23 := n0_; have HB := n1_; clear n0_ n1_; (try clear hb); (try clear hb2); (try clear hk); (try clear hi)) | (go_at_call 22; (with_reducible refine (impl_TurnsAt.calls t292 t325 t326 t327 _ (by first | ((repeat (first | exact HTT.out | apply RT.drewN | apply RT.drew)); done) | exact (HTT.out.on (by repeat (first | (with_reducible first | exact HB.out | apply below_alloc | apply pw_below_drewN | apply below_drew1) | exact HB.out)))) A84.out).mono ?_); rintro e w88 ⟨v328, rfl, ho0, hb⟩; have n0_ := Aside0.mk (Kd.R_below (by (with_reducible repeat (first | apply Kd.R_alloc | apply Kd.R_drewN | apply Kd.R_drew)); exact HO_23.out) hb); have n1_ := Aside0.mk (Kd.R_lower ho0 (below_size (by repeat (first | (with_reducible first | exact HB.out | apply below_alloc | apply pw_below_drewN | apply below_drew1) | exact HB.out)))); have n2_ := Aside0.mk (below_step (by repeat (first | (with_reducible first | exact HB.out | apply below_alloc | apply pw_below_drewN | apply below_drew1) | exact HB.out)) hb); clear HO_23; clear HB; have HO_23 := n0_; have HO329 := n1_; have HB := n2_; clear n0_ n1_ n2_; (try clear hb); (try clear hb2); (try clear hk); (try clear hi); (try clear ho0)) | (go_at_call 23; (with_reducible refine (spec_TurnsAt.calls kj49 t292 t325 t330 t331 _ A85.out).mono ?_); rintro e w89 ⟨v332, rfl, ho0, hb⟩; have n0_ := Aside0.mk (Kd.R_below (by (with_reducible repeat (first | apply Kd.R_alloc | apply Kd.R_drewN | apply Kd.R_drew)); exact HO_23.out) hb); have n1_ := Aside0.mk (Kd.R_elder' (by (with_reducible repeat (first | apply Kd.R_alloc | apply Kd.R_drewN | apply Kd.R_drew)); exact HO329.out) (Kd.R_base ho0) hb); have n2_ := Aside0.mk (Kd.R_lower (Kd.R_new' ho0 (Kd.R_lt (by (with_reducible repeat (first | apply Kd.R_alloc | apply Kd.R_drewN | apply Kd.R_drew)); exact HO329.out))) (below_size (by repeat (first | (with_reducible first | exact HB.out | apply below_alloc | apply pw_below_drewN | apply below_drew1) | exact HB.out)))); have n3_ := Aside0.mk (below_step (by repeat (first | (with_reducible first | exact HB.out | apply below_alloc | apply pw_below_drewN | apply below_drew1) | exact HB.out)) hb); clear HO_23; clear HO329; clear HB; have HO_23 := n0_; have HO329 := n1_; have HO333 := n2_; have HB := n3_; clear n0_ n1_ n2_ n3_; (try clear hb); (try clear hb2); (try clear hk); (try clear hi); (try clear ho0)))
 repeat (go_quiet (first | (go_at_call 8; (with_reducible refine (spec_P6Pick.calls _ _ l1 10 t325 _ ?side1 ?side2 A83.out).mono ?_); (case side1 => repeat (first | exact (Kd.C_below HR1.out HB.out) | (with_reducible refine Kd.C_alloc ?_ _) | (with_reducible refine Kd.C_drewN ?_ _) | (with_reducible refine Kd.C_drew ?_))); (case side2 => exact HC1.out); rintro e w87 ⟨rfl, hb⟩; have n0_ := Aside0.mk (Kd.R_below (by (with_reducible repeat (first | apply Kd.R_alloc | apply Kd.R_drewN | apply Kd.R_drew)); exact HO_23.out) hb); have n1_ := Aside0.mk (below_step (by repeat (first | (with_reducible first | exact HB.out | apply below_alloc | apply pw_below_drewN | apply below_drew1) | exact HB.out)) hb); clear HO_23; clear HB; have HO_23 := n0_; have HB := n1_; clear n0_ n1_; (try clear hb); (try clear hb2); (try clear hk); (try clear hi)) | (go_at_call 22; (with_reducible refine (impl_TurnsAt.calls t292 t325 t326 t327 _ (by first | ((repeat (first | exact HTT.out | apply RT.drewN | apply RT.drew)); done) | exact (HTT.out.on (by repeat (first | (with_reducible first | exact HB.out | apply below_alloc | apply pw_below_drewN | apply below_drew1) | exact HB.out)))) A84.out).mono ?_); rintro e w88 ⟨v328, rfl, ho0, hb⟩; have n0_ := Aside0.mk (Kd.R_below (by (with_reducible repeat (first | apply Kd.R_alloc | apply Kd.R_drewN | apply Kd.R_drew)); exact HO_23.out) hb); have n1_ := Aside0.mk (Kd.R_lower ho0 (below_size (by repeat (first | (with_reducible first | exact HB.out | apply below_alloc | apply pw_below_drewN | apply below_drew1) | exact HB.out)))); have n2_ := Aside0.mk (below_step (by repeat (first | (with_reducible first | exact HB.out | apply below_alloc | apply pw_below_drewN | apply below_drew1) | exact HB.out)) hb); clear HO_23; clear HB; have HO_23 := n0_; have HO329 := n1_; have HB := n2_; clear n0_ n1_ n2_; (try clear hb); (try clear hb2); (try clear hk); (try clear hi); (try clear ho0)) | (go_at_call 23; (with_reducible refine (spec_TurnsAt.calls kj49 t292 t325 t330 t331 _ A85.out).mono ?_); rintro e w89 ⟨v332, rfl, ho0, hb⟩; have n0_ := Aside0.mk (Kd.R_below (by (with_reducible repeat (first | apply Kd.R_alloc | apply Kd.R_drewN | apply Kd.R_drew)); exact HO_23.out) hb); have n1_ := Aside0.mk (Kd.R_elder' (by (with_reducible repeat (first | apply Kd.R_alloc | apply Kd.R_drewN | apply Kd.R_drew)); exact HO329.out) (Kd.R_base ho0) hb); have n2_ := Aside0.mk (Kd.R_lower (Kd.R_new' ho0 (Kd.R_lt (by (with_reducible repeat (first | apply Kd.R_alloc | apply Kd.R_drewN | apply Kd.R_drew)); exact HO329.out))) (below_size (by repeat (first | (with_reducible first | exact HB.out | apply below_alloc | apply pw_below_drewN | apply below_drew1) | exact HB.out)))); have n3_ := Aside0.mk (below_step (by repeat (first | (with_reducible first | exact HB.out | apply below_alloc | apply pw_below_drewN | apply below_drew1) | exact HB.out)) hb); clear HO_23; clear HO329; clear HB; have HO_23 := n0_; have HO329 := n1_; have HO333 := n2_; have HB := n3_; clear n0_ n1_ n2_ n3_; (try clear hb); (try clear hb2); (try clear hk); (try clear hi); (try clear ho0))); go_upto_region 28 with (first | (go_at_call 8; (with_reducible refine (spec_P6Pick.calls _ _ l1 10 t325 _ ?side1 ?side2 A83.out).mono ?_); (case side1 => repeat (first | exact (Kd.C_below HR1.out HB.out) | (with_reducible refine Kd.C_alloc ?_ _) | (with_reducible refine Kd.C_drewN ?_ _) | (with_reducible refine Kd.C_drew ?_))); (case side2 => exact HC1.out); rintro e w87 ⟨rfl, hb⟩; have n0_ := Aside0.mk (Kd.R_below (by (with_reducible repeat (first | apply Kd.R_alloc | apply Kd.R_drewN | apply Kd.R_drew)); exact HO_23.out) hb); have n1_ := Aside0.mk (below_step (by repeat (first | (with_reducible first | exact HB.out | apply below_alloc | apply pw_below_drewN | apply below_drew1) | exact HB.out)) hb); clear HO_23; clear HB; have HO_23 := n0_; have HB := n1_; clear n0_ n1_; (try clear hb); (try clear hb2); (try clear hk); (try clear hi)) | (go_at_call 22; (with_reducible refine (impl_TurnsAt.calls t292 t325 t326 t327 _ (by first | ((repeat (first | exact HTT.out | apply RT.drewN | apply RT.drew)); done) | exact (HTT.out.on (by repeat (first | (with_reducible first | exact HB.out | apply below_alloc | apply pw_below_drewN | apply below_drew1) | exact HB.out)))) A84.out).mono ?_); rintro e w88 ⟨v328, rfl, ho0, hb⟩; have n0_ := Aside0.mk (Kd.R_below (by (with_reducible repeat (first | apply Kd.R_alloc | apply Kd.R_drewN | apply Kd.R_drew)); exact HO_23.out) hb); have n1_ := Aside0.mk (Kd.R_lower ho0 (below_size (by repeat (first | (with_reducible first | exact HB.out | apply below_alloc | apply pw_below_drewN | apply below_drew1) | exact HB.out)))); have n2_ := Aside0.mk (below_step (by repeat (first | (with_reducible first | exact HB.out | apply below_alloc | apply pw_below_drewN | apply below_drew1) | exact HB.out)) hb); clear HO_23; clear HB; have HO_23 := n0_; have HO329 := n1_; have HB := n2_; clear n0_ n1_ n2_; (try clear hb); (try clear hb2); (try clear hk); (try clear hi); (try clear ho0)) | (go_at_call 23; (with_reducible refine (spec_TurnsAt.calls kj49 t292 t325 t330 t331 _ A85.out).mono ?_); rintro e w89 ⟨v332, rfl, ho0, hb⟩; have n0_ := Aside0.mk (Kd.R_below (by (with_reducible repeat (first | apply Kd.R_alloc | apply Kd.R_drewN | apply Kd.R_drew)); exact HO_23.out) hb); have n1_ := Aside0.mk (Kd.R_elder' (by (with_reducible repeat (first | apply Kd.R_alloc | apply Kd.R_drewN | apply Kd.R_drew)); exact HO329.out) (Kd.R_base ho0) hb); have n2_ := Aside0.mk (Kd.R_lower (Kd.R_new' ho0 (Kd.R_lt (by (with_reducible repeat (first | apply Kd.R_alloc | apply Kd.R_drewN | apply Kd.R_drew)); exact HO329.out))) (below_size (by repeat (first | (with_reducible first | exact HB.out | apply below_alloc | apply pw_below_drewN | apply below_drew1) | exact HB.out)))); have n3_ := Aside0.mk (below_step (by repeat (first | (with_reducible first | exact HB.out | apply below_alloc | apply pw_below_drewN | apply below_drew1) | exact HB.out)) hb); clear HO_23; clear HO329; clear HB; have HO_23 := n0_; have HO329 := n1_; have HO333 := n2_; have HB := n3_; clear n0_ n1_ n2_ n3_; (try clear hb); (try clear hb2); (try clear hk); (try clear hi); (try clear ho0))))
 (try simp only [Act.put, List.setIfInBounds_toArray, List.set_cons_zero, List.set_cons_succ])
 go_cut [273] (fun v273 wc => ∃ (kq : Nat) (x273_85 : Bool), v273 = .bool x273_85 ∧ Aside0 (laws_FnRows.j3 kq t292 t312 t325 t330 x273_85 = some r) ∧ Aside0 (kq ≤ kj49) ∧ Aside0 (Kd.R (Kd.int .u16) 28 wc w.heap.size (fun _ => True) v314 t312) ∧ Aside0 (Kd.R (Kd.int .u32) 25 wc w.heap.size (fun _ => True) v332 t330) ∧ Aside0 (Below w.heap.size w wc))
 case first =>
  as_aux_lemma =>
  have H := HC86.out
  clear HC86
  by_cases c90 : t327 = t331
  rotate_left
  · rw [if_neg c90] at H
    exact absurd (H.trans (congrArg some ht_)) (laws_FnRows.j3_no _ _ _ _ _)
  rw [if_pos c90] at H
  have c90b0 : (t327 == t331) = true := beq_iff_eq.mpr c90
  have c90b1 : (t327 != t331) = false := bne_eq_false_iff_eq.mpr c90
  clear c90
  (first | rw [c90b0] | (simp only [i64_w, i32_w]; rw [c90b0]) | skip)
  by_cases c91 : t327 = 0
  rotate_left
  · rw [if_neg c91] at H
    exact absurd (H.trans (congrArg some ht_)) (laws_FnRows.j3_no _ _ _ _ _)
  rw [if_pos c91] at H
  have c91b0 : (t327 == 0) = true := beq_iff_eq.mpr c91
  have c91b1 : (t327 != 0) = false := bne_eq_false_iff_eq.mpr c91
  clear c91
  replace H := Option.bind_eq_some_iff.mp H
  obtain ⟨t334, A920, H⟩ := H
  replace H : (laws_FnRows.j3 kj49 t292 t312 t325 t330 (!t334)) = some r := H
  have A92 := Aside0.mk A920
  clear A920
  have H' := Aside0.mk H
  clear H
  obtain ⟨Ao93, co93, eo93⟩ := Kd.R_slice HO329.out
  subst eo93
  obtain ⟨Ao94, co94, eo94⟩ := Kd.R_slice HO333.out
  subst eo94
  go_wp2_with (first | (go_at_call 24; (with_reducible refine (spec_SameTurns.calls kj49 _ _ t326 _ _ t330 t334 _ ?side1 ?side2 ?side3 ?side4 A92.out).mono ?_); (case side1 => repeat (first | exact (Kd.R_reads' HO329.out).2.2 | (with_reducible refine Kd.C_alloc ?_ _) | (with_reducible refine Kd.C_drewN ?_ _) | (with_reducible refine Kd.C_drew ?_))); (case side2 => exact (Kd.R_reads' HO329.out).2.1); (case side3 => repeat (first | exact (Kd.R_reads' HO333.out).2.2 | (with_reducible refine Kd.C_alloc ?_ _) | (with_reducible refine Kd.C_drewN ?_ _) | (with_reducible refine Kd.C_drew ?_))); (case side4 => exact (Kd.R_reads' HO333.out).2.1); rintro e w' ⟨rfl, ⟨nd, rfl⟩⟩; (try first | exact ⟨rfl, _, World.drewN_drewN _ _ _⟩ | exact ⟨rfl, _, Eq.trans (World.drewN_drewN _ _ _) (congrArg (World.drewN _) (Nat.add_assoc _ _ _))⟩)))
  repeat (go_quiet (first | (go_at_call 24; (with_reducible refine (spec_SameTurns.calls kj49 _ _ t326 _ _ t330 t334 _ ?side1 ?side2 ?side3 ?side4 A92.out).mono ?_); (case side1 => repeat (first | exact (Kd.R_reads' HO329.out).2.2 | (with_reducible refine Kd.C_alloc ?_ _) | (with_reducible refine Kd.C_drewN ?_ _) | (with_reducible refine Kd.C_drew ?_))); (case side2 => exact (Kd.R_reads' HO329.out).2.1); (case side3 => repeat (first | exact (Kd.R_reads' HO333.out).2.2 | (with_reducible refine Kd.C_alloc ?_ _) | (with_reducible refine Kd.C_drewN ?_ _) | (with_reducible refine Kd.C_drew ?_))); (case side4 => exact (Kd.R_reads' HO333.out).2.1); rintro e w' ⟨rfl, ⟨nd, rfl⟩⟩; (try first | exact ⟨rfl, _, World.drewN_drewN _ _ _⟩ | exact ⟨rfl, _, Eq.trans (World.drewN_drewN _ _ _) (congrArg (World.drewN _) (Nat.add_assoc _ _ _))⟩))); try go_wp2_with (first | (go_at_call 24; (with_reducible refine (spec_SameTurns.calls kj49 _ _ t326 _ _ t330 t334 _ ?side1 ?side2 ?side3 ?side4 A92.out).mono ?_); (case side1 => repeat (first | exact (Kd.R_reads' HO329.out).2.2 | (with_reducible refine Kd.C_alloc ?_ _) | (with_reducible refine Kd.C_drewN ?_ _) | (with_reducible refine Kd.C_drew ?_))); (case side2 => exact (Kd.R_reads' HO329.out).2.1); (case side3 => repeat (first | exact (Kd.R_reads' HO333.out).2.2 | (with_reducible refine Kd.C_alloc ?_ _) | (with_reducible refine Kd.C_drewN ?_ _) | (with_reducible refine Kd.C_drew ?_))); (case side4 => exact (Kd.R_reads' HO333.out).2.1); rintro e w' ⟨rfl, ⟨nd, rfl⟩⟩; (try first | exact ⟨rfl, _, World.drewN_drewN _ _ _⟩ | exact ⟨rfl, _, Eq.trans (World.drewN_drewN _ _ _) (congrArg (World.drewN _) (Nat.add_assoc _ _ _))⟩))))
  go_meet
  case rel => exact ⟨_, (!t334), (by first | rfl | (simp; done) | (simp [*]; done)), H', ⟨by have := HJ2.out; have := HJ18.out; have := HJ49.out; first | omega | exact Nat.le_refl _⟩, ⟨by (with_reducible repeat (first | apply Kd.R_alloc | apply Kd.R_drewN | apply Kd.R_drew)); exact HO_23.out⟩, ⟨by (with_reducible repeat (first | apply Kd.R_alloc | apply Kd.R_drewN | apply Kd.R_drew)); exact Kd.R_mono HO333.out (fun _ hk => trivial)⟩, ⟨by repeat (first | (with_reducible first | exact HB.out | apply below_alloc | apply pw_below_drewN | apply below_drew1) | exact HB.out)⟩⟩
 case rest =>
 as_aux_lemma =>
 clear HC86
 try clear c1
 try clear p2
 try clear c3
 try clear c4
 try clear c5
 try clear c6
 try clear c7
 try clear c8
 try clear c9
 try clear c30
 try clear c30b0
 try clear c30b1
 try clear c31
 try clear c31b0
 try clear c31b1
 try clear c32
 try clear c32b0
 try clear c32b1
 try clear c33
 try clear c33b0
 try clear c33b1
 try clear c34
 try clear c34b0
 try clear c34b1
 try clear c35
 try clear c35b0
 try clear c35b1
 try clear c36
 try clear c36b0
 try clear c36b1
 try clear c36b2
 try clear c37
 try clear c37b0
 try clear c37b1
 try clear c37b2
 try clear c38
 try clear c38b0
 try clear c38b1
 try clear c39
 try clear c39b0
 try clear c39b1
 try clear c40
 try clear c40b0
 try clear c40b1
 try clear c41
 try clear c41b0
 try clear c41b1
 try clear c42
 try clear c42b0
 try clear c42b1
 try clear c44
 try clear c49
 try clear c51
 try clear c51b0
 try clear c51b1
 try clear c56
 try clear c56b0
 try clear c56b1
 try clear c57
 try clear c58
 try clear c58b0
 try clear c58b1
 try clear c59
 try clear c59b0
 try clear c59b1
 try clear c60
 try clear c60b0
 try clear c60b1
 try clear c61
 try clear c61b0
 try clear c61b1
 try clear c62
 try clear c62b0
 try clear c62b1
 try clear c63
 try clear c63b0
 try clear c63b1
 try clear c82
 try clear c82b0
 try clear c82b1
 try clear c90
 try clear c90b0
 try clear c90b1
 try clear c91
 try clear c91b0
 try clear c91b1
 try clear p2
 obtain ⟨kq, x273_85, rfl, HA, HJ85, HO_23, HO_36, HB⟩ := hcut
 cases kq with
 | zero => exact absurd HA.out (by simp [laws_FnRows.j3])
 | succ kj85 =>
 have H := HA.out
 clear HA
 simp only [laws_FnRows.j3] at H
 by_cases c95 : x273_85 = true
 · subst c95
   have H1 : (some false) = some r := by rw [if_pos rfl] at H; exact H
   clear H
   have H := H1
   clear H1
   obtain rfl := Option.some.inj H
   exact absurd ht_ (by decide)
 replace c95 := Bool.eq_false_iff.mpr c95
 subst c95
 have H1 : (laws_FnRows.l0 kj85 t292 t312 t325 t330 (([] : List Int)) 0) = some r := by rw [if_neg (show ¬ (false = true) by decide)] at H; exact H
 clear H
 have H := H1
 clear H1
 obtain ⟨y335, hy335⟩ : ∃ y_ : List Int, y_ = (([] : List Int)) := ⟨_, rfl⟩
 replace H : (laws_FnRows.l0 kj85 t292 t312 t325 t330 y335 0) = some r := by first | (rw [hy335]; with_reducible exact H) | (have H2_ := (Option.bind_some _ _).symm.trans H; rw [hy335]; with_reducible exact H2_) | (have H2_ := (Option.bind_some _ _).symm.trans H; with_reducible exact H2_) | with_reducible exact H | (rw [hy335]; exact H) | exact H
 have Ny335 := Aside0.mk hy335
 clear hy335
 have H' := Aside0.mk H
 clear H
 go_wp2_with (first | ((with_reducible refine gate_dst (N := 274) rfl ?_); (try (refine gate_guard (by rfl) ?_; dsimp only)); refine Kd.R_lit (Kd.int .u16) _ 28 ?hg (N := 274) ?hd (xs := ([] : List Int)) (inner := []) (ok := fun _ => True) (okp := fun _ => True) ?hr ?hp (fun _ hk => hk) trivial (Below.refl _ _) (Nat.le_refl _) (by simp) ?_; (case hd => rfl); (case hg => rfl); (case hr => first | (go_simp; done) | (go_simp; rfl)); (case hp => exact (Reps.none _ _)); intro v336 w96 ho97 hb hg_ hnew_; clear hg_ hnew_; (first | rw [← Ny335.out] at ho97 | (simp only [Int.reduceToNat] at ho97; rw [← Ny335.out] at ho97)); have n0_ := Aside0.mk (Kd.R_elder' (by (with_reducible repeat (first | apply Kd.R_alloc | apply Kd.R_drewN | apply Kd.R_drew)); exact HO_23.out) (Kd.R_base ho97) hb); have n1_ := Aside0.mk (Kd.R_below (by (with_reducible repeat (first | apply Kd.R_alloc | apply Kd.R_drewN | apply Kd.R_drew)); exact HO_36.out) hb); have n2_ := Aside0.mk (Kd.R_lower (Kd.R_new' ho97 (Kd.R_lt (by (with_reducible repeat (first | apply Kd.R_alloc | apply Kd.R_drewN | apply Kd.R_drew)); exact HO_23.out))) (below_size (by repeat (first | (with_reducible first | exact HB.out | apply below_alloc | apply pw_below_drewN | apply below_drew1) | exact HB.out)))); have n3_ := Aside0.mk (below_step (by repeat (first | (with_reducible first | exact HB.out | apply below_alloc | apply pw_below_drewN | apply below_drew1) | exact HB.out)) hb); clear HO_23; clear HO_36; clear HB; have HO_23 := n0_; have HO_36 := n1_; have HO337 := n2_; have HB := n3_; clear n0_ n1_ n2_ n3_; clear hb ho97))
 repeat (go_quiet (first | ((with_reducible refine gate_dst (N := 274) rfl ?_); (try (refine gate_guard (by rfl) ?_; dsimp only)); refine Kd.R_lit (Kd.int .u16) _ 28 ?hg (N := 274) ?hd (xs := ([] : List Int)) (inner := []) (ok := fun _ => True) (okp := fun _ => True) ?hr ?hp (fun _ hk => hk) trivial (Below.refl _ _) (Nat.le_refl _) (by simp) ?_; (case hd => rfl); (case hg => rfl); (case hr => first | (go_simp; done) | (go_simp; rfl)); (case hp => exact (Reps.none _ _)); intro v336 w96 ho97 hb hg_ hnew_; clear hg_ hnew_; (first | rw [← Ny335.out] at ho97 | (simp only [Int.reduceToNat] at ho97; rw [← Ny335.out] at ho97)); have n0_ := Aside0.mk (Kd.R_elder' (by (with_reducible repeat (first | apply Kd.R_alloc | apply Kd.R_drewN | apply Kd.R_drew)); exact HO_23.out) (Kd.R_base ho97) hb); have n1_ := Aside0.mk (Kd.R_below (by (with_reducible repeat (first | apply Kd.R_alloc | apply Kd.R_drewN | apply Kd.R_drew)); exact HO_36.out) hb); have n2_ := Aside0.mk (Kd.R_lower (Kd.R_new' ho97 (Kd.R_lt (by (with_reducible repeat (first | apply Kd.R_alloc | apply Kd.R_drewN | apply Kd.R_drew)); exact HO_23.out))) (below_size (by repeat (first | (with_reducible first | exact HB.out | apply below_alloc | apply pw_below_drewN | apply below_drew1) | exact HB.out)))); have n3_ := Aside0.mk (below_step (by repeat (first | (with_reducible first | exact HB.out | apply below_alloc | apply pw_below_drewN | apply below_drew1) | exact HB.out)) hb); clear HO_23; clear HO_36; clear HB; have HO_23 := n0_; have HO_36 := n1_; have HO337 := n2_; have HB := n3_; clear n0_ n1_ n2_ n3_; clear hb ho97)); try go_wp2_with (first | ((with_reducible refine gate_dst (N := 274) rfl ?_); (try (refine gate_guard (by rfl) ?_; dsimp only)); refine Kd.R_lit (Kd.int .u16) _ 28 ?hg (N := 274) ?hd (xs := ([] : List Int)) (inner := []) (ok := fun _ => True) (okp := fun _ => True) ?hr ?hp (fun _ hk => hk) trivial (Below.refl _ _) (Nat.le_refl _) (by simp) ?_; (case hd => rfl); (case hg => rfl); (case hr => first | (go_simp; done) | (go_simp; rfl)); (case hp => exact (Reps.none _ _)); intro v336 w96 ho97 hb hg_ hnew_; clear hg_ hnew_; (first | rw [← Ny335.out] at ho97 | (simp only [Int.reduceToNat] at ho97; rw [← Ny335.out] at ho97)); have n0_ := Aside0.mk (Kd.R_elder' (by (with_reducible repeat (first | apply Kd.R_alloc | apply Kd.R_drewN | apply Kd.R_drew)); exact HO_23.out) (Kd.R_base ho97) hb); have n1_ := Aside0.mk (Kd.R_below (by (with_reducible repeat (first | apply Kd.R_alloc | apply Kd.R_drewN | apply Kd.R_drew)); exact HO_36.out) hb); have n2_ := Aside0.mk (Kd.R_lower (Kd.R_new' ho97 (Kd.R_lt (by (with_reducible repeat (first | apply Kd.R_alloc | apply Kd.R_drewN | apply Kd.R_drew)); exact HO_23.out))) (below_size (by repeat (first | (with_reducible first | exact HB.out | apply below_alloc | apply pw_below_drewN | apply below_drew1) | exact HB.out)))); have n3_ := Aside0.mk (below_step (by repeat (first | (with_reducible first | exact HB.out | apply below_alloc | apply pw_below_drewN | apply below_drew1) | exact HB.out)) hb); clear HO_23; clear HO_36; clear HB; have HO_23 := n0_; have HO_36 := n1_; have HO337 := n2_; have HB := n3_; clear n0_ n1_ n2_ n3_; clear hb ho97)))
 go_loopg [38, 39] kj85 (fun kq v38 v39 w' => ∃ (x38_5 : List Int) (x39_5 : Int), v39 = .int .i64 x39_5 ∧ Aside0 (laws_FnRows.l0 kq t292 t312 t325 t330 x38_5 x39_5 = some r) ∧ Aside0 (kq ≤ kj85) ∧ Aside0 (Kd.R (Kd.int .u16) 28 w' w.heap.size (fun k_ => some k_ ≠ (v38 : Value).ownBlock) v314 t312) ∧ Aside0 (Kd.R (Kd.int .u32) 25 w' w.heap.size (fun _ => True) v332 t330) ∧ Aside0 (Kd.R (Kd.int .u16) 28 w' w.heap.size (fun k_ => some k_ ≠ (v314 : Value).ownBlock) v38 x38_5) ∧ Aside0 (Below w.heap.size w w'))
 case atStart => exact ⟨(y335), (0), (by first | rfl | (simp; done) | (simp [*]; done)), H', ⟨Nat.le_refl _⟩, ⟨by (with_reducible repeat (first | apply Kd.R_alloc | apply Kd.R_drewN | apply Kd.R_drew)); exact Kd.R_mono HO_23.out (fun _ hk => hk.2)⟩, ⟨by (with_reducible repeat (first | apply Kd.R_alloc | apply Kd.R_drewN | apply Kd.R_drew)); exact HO_36.out⟩, ⟨by (with_reducible repeat (first | apply Kd.R_alloc | apply Kd.R_drewN | apply Kd.R_drew)); exact Kd.R_mono HO337.out (fun _ hk => hk.2)⟩, ⟨by repeat (first | (with_reducible first | exact HB.out | apply below_alloc | apply pw_below_drewN | apply below_drew1) | exact HB.out)⟩⟩
 case round =>
 as_aux_lemma =>
 clear H'
 try clear c1
 try clear p2
 try clear c3
 try clear c4
 try clear c5
 try clear c6
 try clear c7
 try clear c8
 try clear c9
 try clear c30
 try clear c30b0
 try clear c30b1
 try clear c31
 try clear c31b0
 try clear c31b1
 try clear c32
 try clear c32b0
 try clear c32b1
 try clear c33
 try clear c33b0
 try clear c33b1
 try clear c34
 try clear c34b0
 try clear c34b1
 try clear c35
 try clear c35b0
 try clear c35b1
 try clear c36
 try clear c36b0
 try clear c36b1
 try clear c36b2
 try clear c37
 try clear c37b0
 try clear c37b1
 try clear c37b2
 try clear c38
 try clear c38b0
 try clear c38b1
 try clear c39
 try clear c39b0
 try clear c39b1
 try clear c40
 try clear c40b0
 try clear c40b1
 try clear c41
 try clear c41b0
 try clear c41b1
 try clear c42
 try clear c42b0
 try clear c42b1
 try clear c44
 try clear c49
 try clear c51
 try clear c51b0
 try clear c51b1
 try clear c56
 try clear c56b0
 try clear c56b1
 try clear c57
 try clear c58
 try clear c58b0
 try clear c58b1
 try clear c59
 try clear c59b0
 try clear c59b1
 try clear c60
 try clear c60b0
 try clear c60b1
 try clear c61
 try clear c61b0
 try clear c61b1
 try clear c62
 try clear c62b0
 try clear c62b1
 try clear c63
 try clear c63b0
 try clear c63b1
 try clear c82
 try clear c82b0
 try clear c82b1
 try clear c90
 try clear c90b0
 try clear c90b1
 try clear c91
 try clear c91b0
 try clear c91b1
 try clear c95
 try clear p2
 obtain ⟨x38_5, x39_5, rfl, HA, HK5, HO_23, HO_36, HO_38, HB⟩ := hrel
 cases gk with
 | zero => exact absurd HA.out (by simp [laws_FnRows.l0])
 | succ k5 =>
 have H := HA.out
 clear HA
 simp only [laws_FnRows.l0] at H
 by_cases c98 : x39_5 < (t330.length : Int)
 rotate_left
 · rw [if_neg c98] at H
   have c98b0 : decide (x39_5 < (t330.length : Int)) = false := decide_eq_false c98
   clear c98
   replace H := Option.bind_eq_some_iff.mp H
   obtain ⟨⟨t353, t354⟩, A1340, H⟩ := H
   replace H : (if t354 = 0 then (if 0 ≤ t325 then (if t325 < (t312.length : Int) then (laws_FnRows.j5 k5 t292 t312 t325 (t353 != (wrap64 (rd t312 t325)))) else (none)) else (none)) else (laws_FnRows.j5 k5 t292 t312 t325 true)) = some r := H
   have A134 := Aside0.mk A1340
   clear A1340
   have HC135 := Aside0.mk H
   clear H
   obtain ⟨Ao136, co136, eo136⟩ := Kd.R_slice HO_36.out
   subst eo136
   obtain ⟨Ao137, co137, eo137⟩ := Kd.R_slice HO_38.out
   subst eo137
   go_upto_region 40 with (first | (go_at_call 25; (with_reducible refine (impl_ExcludedBy.calls k5 _ _ x38_5 t353 t354 _ ?side1 ?side2 A134.out).mono ?_); (case side1 => repeat (first | exact (Kd.R_reads' HO_38.out).2.2 | (with_reducible refine Kd.C_alloc ?_ _) | (with_reducible refine Kd.C_drewN ?_ _) | (with_reducible refine Kd.C_drew ?_))); (case side2 => exact (Kd.R_reads' HO_38.out).2.1); rintro e w138 ⟨rfl, hb⟩; have n0_ := Aside0.mk (Kd.R_below (by (with_reducible repeat (first | apply Kd.R_alloc | apply Kd.R_drewN | apply Kd.R_drew)); exact HO_23.out) hb); have n1_ := Aside0.mk (Kd.R_below (by (with_reducible repeat (first | apply Kd.R_alloc | apply Kd.R_drewN | apply Kd.R_drew)); exact HO_36.out) hb); have n2_ := Aside0.mk (Kd.R_below (by (with_reducible repeat (first | apply Kd.R_alloc | apply Kd.R_drewN | apply Kd.R_drew)); exact HO_38.out) hb); have n3_ := Aside0.mk (below_step (by repeat (first | (with_reducible first | exact HB.out | apply below_alloc | apply pw_below_drewN | apply below_drew1) | exact HB.out)) hb); clear HO_23; clear HO_36; clear HO_38; clear HB; have HO_23 := n0_; have HO_36 := n1_; have HO_38 := n2_; have HB := n3_; clear n0_ n1_ n2_ n3_; (try clear hb); (try clear hb2); (try clear hk); (try clear hi)))
   repeat (go_quiet (first | (go_at_call 25; (with_reducible refine (impl_ExcludedBy.calls k5 _ _ x38_5 t353 t354 _ ?side1 ?side2 A134.out).mono ?_); (case side1 => repeat (first | exact (Kd.R_reads' HO_38.out).2.2 | (with_reducible refine Kd.C_alloc ?_ _) | (with_reducible refine Kd.C_drewN ?_ _) | (with_reducible refine Kd.C_drew ?_))); (case side2 => exact (Kd.R_reads' HO_38.out).2.1); rintro e w138 ⟨rfl, hb⟩; have n0_ := Aside0.mk (Kd.R_below (by (with_reducible repeat (first | apply Kd.R_alloc | apply Kd.R_drewN | apply Kd.R_drew)); exact HO_23.out) hb); have n1_ := Aside0.mk (Kd.R_below (by (with_reducible repeat (first | apply Kd.R_alloc | apply Kd.R_drewN | apply Kd.R_drew)); exact HO_36.out) hb); have n2_ := Aside0.mk (Kd.R_below (by (with_reducible repeat (first | apply Kd.R_alloc | apply Kd.R_drewN | apply Kd.R_drew)); exact HO_38.out) hb); have n3_ := Aside0.mk (below_step (by repeat (first | (with_reducible first | exact HB.out | apply below_alloc | apply pw_below_drewN | apply below_drew1) | exact HB.out)) hb); clear HO_23; clear HO_36; clear HO_38; clear HB; have HO_23 := n0_; have HO_36 := n1_; have HO_38 := n2_; have HB := n3_; clear n0_ n1_ n2_ n3_; (try clear hb); (try clear hb2); (try clear hk); (try clear hi))); go_upto_region 40 with (first | (go_at_call 25; (with_reducible refine (impl_ExcludedBy.calls k5 _ _ x38_5 t353 t354 _ ?side1 ?side2 A134.out).mono ?_); (case side1 => repeat (first | exact (Kd.R_reads' HO_38.out).2.2 | (with_reducible refine Kd.C_alloc ?_ _) | (with_reducible refine Kd.C_drewN ?_ _) | (with_reducible refine Kd.C_drew ?_))); (case side2 => exact (Kd.R_reads' HO_38.out).2.1); rintro e w138 ⟨rfl, hb⟩; have n0_ := Aside0.mk (Kd.R_below (by (with_reducible repeat (first | apply Kd.R_alloc | apply Kd.R_drewN | apply Kd.R_drew)); exact HO_23.out) hb); have n1_ := Aside0.mk (Kd.R_below (by (with_reducible repeat (first | apply Kd.R_alloc | apply Kd.R_drewN | apply Kd.R_drew)); exact HO_36.out) hb); have n2_ := Aside0.mk (Kd.R_below (by (with_reducible repeat (first | apply Kd.R_alloc | apply Kd.R_drewN | apply Kd.R_drew)); exact HO_38.out) hb); have n3_ := Aside0.mk (below_step (by repeat (first | (with_reducible first | exact HB.out | apply below_alloc | apply pw_below_drewN | apply below_drew1) | exact HB.out)) hb); clear HO_23; clear HO_36; clear HO_38; clear HB; have HO_23 := n0_; have HO_36 := n1_; have HO_38 := n2_; have HB := n3_; clear n0_ n1_ n2_ n3_; (try clear hb); (try clear hb2); (try clear hk); (try clear hi))))
   (try simp only [Act.put, List.setIfInBounds_toArray, List.set_cons_zero, List.set_cons_succ])
   go_cut [358] (fun v358 wc => ∃ (kq : Nat) (x358_134 : Bool), v358 = .bool x358_134 ∧ Aside0 (laws_FnRows.j5 kq t292 t312 t325 x358_134 = some r) ∧ Aside0 (kq ≤ k5) ∧ Aside0 (Kd.R (Kd.int .u16) 28 wc w.heap.size (fun _ => True) v314 t312) ∧ Aside0 (Below w.heap.size w wc))
   case first =>
    as_aux_lemma =>
    have H := HC135.out
    clear HC135
    by_cases c139 : t354 = 0
    rotate_left
    · rw [if_neg c139] at H
      exact absurd (H.trans (congrArg some ht_)) (laws_FnRows.j5_no _ _ _ _)
    rw [if_pos c139] at H
    have c139b0 : (t354 == 0) = true := beq_iff_eq.mpr c139
    have c139b1 : (t354 != 0) = false := bne_eq_false_iff_eq.mpr c139
    clear c139
    (first | rw [c139b0] | (simp only [i64_w, i32_w]; rw [c139b0]) | skip)
    by_cases c140 : 0 ≤ t325
    rotate_left
    · rw [if_neg c140] at H
      exact absurd H (by simp)
    rw [if_pos c140] at H
    have c140b0 : decide (0 ≤ t325) = true := decide_eq_true c140
    clear c140
    by_cases c141 : t325 < (t312.length : Int)
    rotate_left
    · rw [if_neg c141] at H
      exact absurd H (by simp)
    rw [if_pos c141] at H
    have c141b0 : decide (t325 < (t312.length : Int)) = true := decide_eq_true c141
    clear c141
    have H' := Aside0.mk H
    clear H
    obtain ⟨Ao142, co142, eo142⟩ := Kd.R_slice HO_23.out
    subst eo142
    have p355 : 0 ≤ (t325 : Int) := of_decide_eq_true (by first | (with_reducible assumption) | assumption)
    have q355 : t325 < (t312.length : Int) := of_decide_eq_true (by first | (with_reducible assumption) | assumption)
    obtain ⟨ad355, e355, hx355_0⟩ := Kd.at_int (Kd.R_reads' HO_23.out).2.2 t325 p355 q355
    cases e355
    replace p355 := eq_true p355
    replace q355 := eq_true q355
    go_wp2
    repeat (go_quiet (fail); try go_wp2)
    go_meet
    case rel => exact ⟨_, ((t353 != (wrap64 (rd t312 t325)))), (by first | rfl | (simp; done) | (simp [*]; done)), H', ⟨by have := HJ2.out; have := HJ18.out; have := HJ49.out; have := HJ85.out; have := HK5.out; first | omega | exact Nat.le_refl _⟩, ⟨by (with_reducible repeat (first | apply Kd.R_alloc | apply Kd.R_drewN | apply Kd.R_drew)); exact Kd.R_mono HO_23.out (fun _ hk => trivial)⟩, ⟨by repeat (first | (with_reducible first | exact HB.out | apply below_alloc | apply pw_below_drewN | apply below_drew1) | exact HB.out)⟩⟩
   case rest =>
   as_aux_lemma =>
   clear HC135
   try clear c1
   try clear p2
   try clear c3
   try clear p3
   try clear q3
   try clear hx3
   try clear c4
   try clear c5
   try clear c6
   try clear p6
   try clear c7
   try clear c8
   try clear c9
   try clear c10
   try clear c11
   try clear c12
   try clear c13
   try clear c14
   try clear c30
   try clear c30b0
   try clear c30b1
   try clear c31
   try clear c31b0
   try clear c31b1
   try clear c32
   try clear c32b0
   try clear c32b1
   try clear c33
   try clear c33b0
   try clear c33b1
   try clear p33
   try clear q33
   try clear hx33
   try clear c34
   try clear c34b0
   try clear c34b1
   try clear p34
   try clear q34
   try clear hx34
   try clear c35
   try clear c35b0
   try clear c35b1
   try clear p35
   try clear q35
   try clear hx35
   try clear c36
   try clear c36b0
   try clear c36b1
   try clear c36b2
   try clear c37
   try clear c37b0
   try clear c37b1
   try clear c37b2
   try clear c38
   try clear c38b0
   try clear c38b1
   try clear c39
   try clear c39b0
   try clear c39b1
   try clear c40
   try clear c40b0
   try clear c40b1
   try clear c41
   try clear c41b0
   try clear c41b1
   try clear c42
   try clear c42b0
   try clear c42b1
   try clear c44
   try clear c49
   try clear c51
   try clear c51b0
   try clear c51b1
   try clear c56
   try clear c56b0
   try clear c56b1
   try clear c57
   try clear c58
   try clear c58b0
   try clear c58b1
   try clear c59
   try clear c59b0
   try clear c59b1
   try clear c60
   try clear c60b0
   try clear c60b1
   try clear c61
   try clear c61b0
   try clear c61b1
   try clear c62
   try clear c62b0
   try clear c62b1
   try clear c63
   try clear c63b0
   try clear c63b1
   try clear p64
   try clear c82
   try clear c82b0
   try clear c82b1
   try clear c90
   try clear c90b0
   try clear c90b1
   try clear c91
   try clear c91b0
   try clear c91b1
   try clear c95
   try clear c98
   try clear c98b0
   try clear c99
   try clear c99b0
   try clear c101
   try clear c101b0
   try clear c101b1
   try clear c105
   try clear c105b0
   try clear c105b1
   try clear c106
   try clear c106b0
   try clear c106b1
   try clear c107
   try clear c108
   try clear c108b0
   try clear c110
   try clear c110b0
   try clear c110b1
   try clear c111
   try clear c111b0
   try clear c113
   try clear c113b0
   try clear c114
   try clear c114b0
   try clear c115
   try clear c115b0
   try clear c118
   try clear c122
   try clear c139
   try clear c139b0
   try clear c139b1
   try clear c140
   try clear c140b0
   try clear c141
   try clear c141b0
   try clear hx338_0
   try clear hx341_0
   try clear hx344_0
   try clear hx345_0
   try clear hx346_0
   try clear hx355_0
   try clear p2
   try clear p338
   try clear p341
   try clear p344
   try clear p345
   try clear p346
   try clear p355
   try clear q338
   try clear q341
   try clear q344
   try clear q345
   try clear q346
   try clear q355
   obtain ⟨kq, x358_134, rfl, HA, HJ134, HO_23, HB⟩ := hcut
   cases kq with
   | zero => exact absurd HA.out (by simp [laws_FnRows.j5])
   | succ kj134 =>
   have H := HA.out
   clear HA
   simp only [laws_FnRows.j5] at H
   by_cases c143 : x358_134 = true
   · subst c143
     have H1 : (some false) = some r := by rw [if_pos rfl] at H; exact H
     clear H
     have H := H1
     clear H1
     obtain rfl := Option.some.inj H
     exact absurd ht_ (by decide)
   replace c143 := Bool.eq_false_iff.mpr c143
   subst c143
   have H1 : (if t292 = 1 then (if 0 ≤ t325 then (if t325 < (t312.length : Int) then (some ((wrap64 (rd t312 t325)) == (wrap64 (t325 + 1)))) else (none)) else (none)) else (if t292 = 2 then (if 0 ≤ t325 then (if t325 < (t312.length : Int) then (some ((wrap64 (rd t312 t325)) == t325)) else (none)) else (none)) else (if t292 = 3 then (if 0 ≤ t325 then (if t325 < (t312.length : Int) then ((impl_OddBits.f (wrap64 (rd t312 t325))).bind fun bt359 => (if bt359.2 = 0 then (if bt359.1 = true then (if t325 = 0 then (some true) else (if 0 ≤ (wrap64 (t325 - 1)) then (if (wrap64 (t325 - 1)) < (t312.length : Int) then (some (decide ((rd t312 t325) > (rd t312 (wrap64 (t325 - 1)))))) else (none)) else (none))) else (some false)) else (some false))) else (none)) else (none)) else (some true)))) = some r := by rw [if_neg (show ¬ (false = true) by decide)] at H; exact H
   clear H
   have H := H1
   clear H1
   by_cases c144 : t292 = 1
   · rw [if_pos c144] at H
     have c144b0 : (t292 == 1) = true := beq_iff_eq.mpr c144
     have c144b1 : (t292 != 1) = false := bne_eq_false_iff_eq.mpr c144
     clear c144
     by_cases c145 : 0 ≤ t325
     rotate_left
     · rw [if_neg c145] at H
       exact absurd H (by simp)
     rw [if_pos c145] at H
     have c145b0 : decide (0 ≤ t325) = true := decide_eq_true c145
     clear c145
     by_cases c146 : t325 < (t312.length : Int)
     rotate_left
     · rw [if_neg c146] at H
       exact absurd H (by simp)
     rw [if_pos c146] at H
     have c146b0 : decide (t325 < (t312.length : Int)) = true := decide_eq_true c146
     clear c146
     obtain rfl := Option.some.inj H
     obtain ⟨Ao147, co147, eo147⟩ := Kd.R_slice HO_23.out
     subst eo147
     have p356 : 0 ≤ (t325 : Int) := of_decide_eq_true (by first | (with_reducible assumption) | assumption)
     have q356 : t325 < (t312.length : Int) := of_decide_eq_true (by first | (with_reducible assumption) | assumption)
     obtain ⟨ad356, e356, hx356_0⟩ := Kd.at_int (Kd.R_reads' HO_23.out).2.2 t325 p356 q356
     cases e356
     replace p356 := eq_true p356
     replace q356 := eq_true q356
     go_wp2
     repeat (go_quiet (fail); try go_wp2)
     go_ret
     exact ⟨by first | rfl | (simp [errW_none, errW_some] <;> rfl) | (simp [*, errW_none, errW_some] <;> rfl), by repeat (first | (with_reducible first | exact HB.out | apply below_alloc | apply pw_below_drewN | apply below_drew1) | exact HB.out)⟩
   rw [if_neg c144] at H
   have c144b0 : (t292 == 1) = false := beq_eq_false_iff_ne.mpr c144
   have c144b1 : (t292 != 1) = true := bne_iff_ne.mpr c144
   by_cases c148 : t292 = 2
   · rw [if_pos c148] at H
     have c148b0 : (t292 == 2) = true := beq_iff_eq.mpr c148
     have c148b1 : (t292 != 2) = false := bne_eq_false_iff_eq.mpr c148
     clear c148
     by_cases c149 : 0 ≤ t325
     rotate_left
     · rw [if_neg c149] at H
       exact absurd H (by simp)
     rw [if_pos c149] at H
     have c149b0 : decide (0 ≤ t325) = true := decide_eq_true c149
     clear c149
     by_cases c150 : t325 < (t312.length : Int)
     rotate_left
     · rw [if_neg c150] at H
       exact absurd H (by simp)
     rw [if_pos c150] at H
     have c150b0 : decide (t325 < (t312.length : Int)) = true := decide_eq_true c150
     clear c150
     obtain rfl := Option.some.inj H
     obtain ⟨Ao151, co151, eo151⟩ := Kd.R_slice HO_23.out
     subst eo151
     have p357 : 0 ≤ (t325 : Int) := of_decide_eq_true (by first | (with_reducible assumption) | assumption)
     have q357 : t325 < (t312.length : Int) := of_decide_eq_true (by first | (with_reducible assumption) | assumption)
     obtain ⟨ad357, e357, hx357_0⟩ := Kd.at_int (Kd.R_reads' HO_23.out).2.2 t325 p357 q357
     cases e357
     replace p357 := eq_true p357
     replace q357 := eq_true q357
     go_wp2
     repeat (go_quiet (fail); try go_wp2)
     go_ret
     exact ⟨by first | rfl | (simp [errW_none, errW_some] <;> rfl) | (simp [*, errW_none, errW_some] <;> rfl), by repeat (first | (with_reducible first | exact HB.out | apply below_alloc | apply pw_below_drewN | apply below_drew1) | exact HB.out)⟩
   rw [if_neg c148] at H
   have c148b0 : (t292 == 2) = false := beq_eq_false_iff_ne.mpr c148
   have c148b1 : (t292 != 2) = true := bne_iff_ne.mpr c148
   by_cases c152 : t292 = 3
   rotate_left
   · rw [if_neg c152] at H
     have c152b0 : (t292 == 3) = false := beq_eq_false_iff_ne.mpr c152
     have c152b1 : (t292 != 3) = true := bne_iff_ne.mpr c152
     obtain rfl := Option.some.inj H
     go_wp2
     repeat (go_quiet (fail); try go_wp2)
     go_ret
     exact ⟨by first | rfl | (simp [errW_none, errW_some] <;> rfl) | (simp [*, errW_none, errW_some] <;> rfl), by repeat (first | (with_reducible first | exact HB.out | apply below_alloc | apply pw_below_drewN | apply below_drew1) | exact HB.out)⟩
   rw [if_pos c152] at H
   have c152b0 : (t292 == 3) = true := beq_iff_eq.mpr c152
   have c152b1 : (t292 != 3) = false := bne_eq_false_iff_eq.mpr c152
   clear c152
   by_cases c153 : 0 ≤ t325
   rotate_left
   · rw [if_neg c153] at H
     exact absurd H (by simp)
   rw [if_pos c153] at H
   have c153b0 : decide (0 ≤ t325) = true := decide_eq_true c153
   clear c153
   by_cases c154 : t325 < (t312.length : Int)
   rotate_left
   · rw [if_neg c154] at H
     exact absurd H (by simp)
   rw [if_pos c154] at H
   have c154b0 : decide (t325 < (t312.length : Int)) = true := decide_eq_true c154
   clear c154
   replace H := Option.bind_eq_some_iff.mp H
   obtain ⟨⟨t359, t360⟩, A1550, H⟩ := H
   replace H : (if t360 = 0 then (if t359 = true then (if t325 = 0 then (some true) else (if 0 ≤ (wrap64 (t325 - 1)) then (if (wrap64 (t325 - 1)) < (t312.length : Int) then (some (decide ((rd t312 t325) > (rd t312 (wrap64 (t325 - 1)))))) else (none)) else (none))) else (some false)) else (some false)) = some r := H
   have A155 := Aside0.mk A1550
   clear A1550
   by_cases c156 : t360 = 0
   rotate_left
   · rw [if_neg c156] at H
     have c156b0 : (t360 == 0) = false := beq_eq_false_iff_ne.mpr c156
     have c156b1 : (t360 != 0) = true := bne_iff_ne.mpr c156
     obtain rfl := Option.some.inj H
     exact absurd ht_ (by decide)
   rw [if_pos c156] at H
   have c156b0 : (t360 == 0) = true := beq_iff_eq.mpr c156
   have c156b1 : (t360 != 0) = false := bne_eq_false_iff_eq.mpr c156
   clear c156
   by_cases c157 : t359 = true
   rotate_left
   · replace c157 := Bool.eq_false_iff.mpr c157
     subst c157
     have H1 : (some false) = some r := by rw [if_neg (show ¬ (false = true) by decide)] at H; exact H
     clear H
     have H := H1
     clear H1
     obtain rfl := Option.some.inj H
     exact absurd ht_ (by decide)
   subst c157
   have H1 : (if t325 = 0 then (some true) else (if 0 ≤ (wrap64 (t325 - 1)) then (if (wrap64 (t325 - 1)) < (t312.length : Int) then (some (decide ((rd t312 t325) > (rd t312 (wrap64 (t325 - 1)))))) else (none)) else (none))) = some r := by rw [if_pos rfl] at H; exact H
   clear H
   have H := H1
   clear H1
   by_cases c158 : t325 = 0
   · rw [if_pos c158] at H
     have c158b0 : (t325 == 0) = true := beq_iff_eq.mpr c158
     have c158b1 : (t325 != 0) = false := bne_eq_false_iff_eq.mpr c158
     clear c158
     obtain rfl := Option.some.inj H
     obtain ⟨Ao159, co159, eo159⟩ := Kd.R_slice HO_23.out
     subst eo159
     have p358 : 0 ≤ (t325 : Int) := of_decide_eq_true (by first | (with_reducible assumption) | assumption)
     have q358 : t325 < (t312.length : Int) := of_decide_eq_true (by first | (with_reducible assumption) | assumption)
     obtain ⟨ad358, e358, hx358_0⟩ := Kd.at_int (Kd.R_reads' HO_23.out).2.2 t325 p358 q358
     cases e358
     replace p358 := eq_true p358
     replace q358 := eq_true q358
     go_wp2_with (first | (go_at_call 26; (with_reducible refine (impl_OddBits.calls (wrap64 (rd t312 t325)) true t360 _ A155.out).mono ?_); rintro e w' ⟨rfl, ⟨nd, rfl⟩⟩; (try first | exact ⟨rfl, _, World.drewN_drewN _ _ _⟩ | exact ⟨rfl, _, Eq.trans (World.drewN_drewN _ _ _) (congrArg (World.drewN _) (Nat.add_assoc _ _ _))⟩)))
     repeat (go_quiet (first | (go_at_call 26; (with_reducible refine (impl_OddBits.calls (wrap64 (rd t312 t325)) true t360 _ A155.out).mono ?_); rintro e w' ⟨rfl, ⟨nd, rfl⟩⟩; (try first | exact ⟨rfl, _, World.drewN_drewN _ _ _⟩ | exact ⟨rfl, _, Eq.trans (World.drewN_drewN _ _ _) (congrArg (World.drewN _) (Nat.add_assoc _ _ _))⟩))); try go_wp2_with (first | (go_at_call 26; (with_reducible refine (impl_OddBits.calls (wrap64 (rd t312 t325)) true t360 _ A155.out).mono ?_); rintro e w' ⟨rfl, ⟨nd, rfl⟩⟩; (try first | exact ⟨rfl, _, World.drewN_drewN _ _ _⟩ | exact ⟨rfl, _, Eq.trans (World.drewN_drewN _ _ _) (congrArg (World.drewN _) (Nat.add_assoc _ _ _))⟩))))
     go_ret
     exact ⟨by first | rfl | (simp [errW_none, errW_some] <;> rfl) | (simp [*, errW_none, errW_some] <;> rfl), by repeat (first | (with_reducible first | exact HB.out | apply below_alloc | apply pw_below_drewN | apply below_drew1) | exact HB.out)⟩
   rw [if_neg c158] at H
   have c158b0 : (t325 == 0) = false := beq_eq_false_iff_ne.mpr c158
   have c158b1 : (t325 != 0) = true := bne_iff_ne.mpr c158
   obtain ⟨ji160, hji160⟩ : ∃ j_ : Int, (wrap64 (t325 - 1)) = j_ := ⟨_, rfl⟩
   replace H : (if 0 ≤ (ji160) then (if (ji160) < (t312.length : Int) then (some (decide ((rd t312 t325) > (rd t312 (ji160))))) else (none)) else (none)) = some r := by first | (rw [hji160] at H; exact H) | (simp only [hji160] at H ⊢; exact H)
   (try rw [hji160] at A155)
   have hji160w : (IntKind.i64.wrap (t325 - 1)) = ji160 := (i64_w _).trans hji160
   by_cases c161 : 0 ≤ (ji160)
   rotate_left
   · rw [if_neg c161] at H
     exact absurd H (by simp)
   rw [if_pos c161] at H
   have c161b0 : decide (0 ≤ (ji160)) = true := decide_eq_true c161
   clear c161
   by_cases c162 : (ji160) < (t312.length : Int)
   rotate_left
   · rw [if_neg c162] at H
     exact absurd H (by simp)
   rw [if_pos c162] at H
   have c162b0 : decide ((ji160) < (t312.length : Int)) = true := decide_eq_true c162
   clear c162
   obtain rfl := Option.some.inj H
   obtain ⟨Ao163, co163, eo163⟩ := Kd.R_slice HO_23.out
   subst eo163
   have p358 : 0 ≤ (t325 : Int) := of_decide_eq_true (by first | (with_reducible assumption) | assumption)
   have q358 : t325 < (t312.length : Int) := of_decide_eq_true (by first | (with_reducible assumption) | assumption)
   obtain ⟨ad358, e358, hx358_0⟩ := Kd.at_int (Kd.R_reads' HO_23.out).2.2 t325 p358 q358
   cases e358
   replace p358 := eq_true p358
   replace q358 := eq_true q358
   go_wp2_with (first | (go_at_call 26; (with_reducible refine (impl_OddBits.calls (wrap64 (rd t312 t325)) true t360 _ A155.out).mono ?_); rintro e w' ⟨rfl, ⟨nd, rfl⟩⟩; (try first | exact ⟨rfl, _, World.drewN_drewN _ _ _⟩ | exact ⟨rfl, _, Eq.trans (World.drewN_drewN _ _ _) (congrArg (World.drewN _) (Nat.add_assoc _ _ _))⟩); have p361 : 0 ≤ (t325 : Int) := of_decide_eq_true (by first | (with_reducible assumption) | assumption); have q361 : t325 < (t312.length : Int) := of_decide_eq_true (by first | (with_reducible assumption) | assumption); obtain ⟨ad361, e361, hx361_0⟩ := Kd.at_int (Kd.R_reads' HO_23.out).2.2 t325 p361 q361; obtain rfl : ad358 = ad361 := (by injection e361); replace p361 := eq_true p361; replace q361 := eq_true q361; have p362 : 0 ≤ ((ji160) : Int) := of_decide_eq_true (by first | (with_reducible assumption) | assumption); have q362 : (ji160) < (t312.length : Int) := of_decide_eq_true (by first | (with_reducible assumption) | assumption); obtain ⟨ad362, e362, hx362_0⟩ := Kd.at_int (Kd.R_reads' HO_23.out).2.2 (ji160) p362 q362; obtain rfl : ad358 = ad362 := (by injection e362); replace p362 := eq_true p362; replace q362 := eq_true q362))
   repeat (go_quiet (first | (go_at_call 26; (with_reducible refine (impl_OddBits.calls (wrap64 (rd t312 t325)) true t360 _ A155.out).mono ?_); rintro e w' ⟨rfl, ⟨nd, rfl⟩⟩; (try first | exact ⟨rfl, _, World.drewN_drewN _ _ _⟩ | exact ⟨rfl, _, Eq.trans (World.drewN_drewN _ _ _) (congrArg (World.drewN _) (Nat.add_assoc _ _ _))⟩); have p361 : 0 ≤ (t325 : Int) := of_decide_eq_true (by first | (with_reducible assumption) | assumption); have q361 : t325 < (t312.length : Int) := of_decide_eq_true (by first | (with_reducible assumption) | assumption); obtain ⟨ad361, e361, hx361_0⟩ := Kd.at_int (Kd.R_reads' HO_23.out).2.2 t325 p361 q361; obtain rfl : ad358 = ad361 := (by injection e361); replace p361 := eq_true p361; replace q361 := eq_true q361; have p362 : 0 ≤ ((ji160) : Int) := of_decide_eq_true (by first | (with_reducible assumption) | assumption); have q362 : (ji160) < (t312.length : Int) := of_decide_eq_true (by first | (with_reducible assumption) | assumption); obtain ⟨ad362, e362, hx362_0⟩ := Kd.at_int (Kd.R_reads' HO_23.out).2.2 (ji160) p362 q362; obtain rfl : ad358 = ad362 := (by injection e362); replace p362 := eq_true p362; replace q362 := eq_true q362)); try go_wp2_with (first | (go_at_call 26; (with_reducible refine (impl_OddBits.calls (wrap64 (rd t312 t325)) true t360 _ A155.out).mono ?_); rintro e w' ⟨rfl, ⟨nd, rfl⟩⟩; (try first | exact ⟨rfl, _, World.drewN_drewN _ _ _⟩ | exact ⟨rfl, _, Eq.trans (World.drewN_drewN _ _ _) (congrArg (World.drewN _) (Nat.add_assoc _ _ _))⟩); have p361 : 0 ≤ (t325 : Int) := of_decide_eq_true (by first | (with_reducible assumption) | assumption); have q361 : t325 < (t312.length : Int) := of_decide_eq_true (by first | (with_reducible assumption) | assumption); obtain ⟨ad361, e361, hx361_0⟩ := Kd.at_int (Kd.R_reads' HO_23.out).2.2 t325 p361 q361; obtain rfl : ad358 = ad361 := (by injection e361); replace p361 := eq_true p361; replace q361 := eq_true q361; have p362 : 0 ≤ ((ji160) : Int) := of_decide_eq_true (by first | (with_reducible assumption) | assumption); have q362 : (ji160) < (t312.length : Int) := of_decide_eq_true (by first | (with_reducible assumption) | assumption); obtain ⟨ad362, e362, hx362_0⟩ := Kd.at_int (Kd.R_reads' HO_23.out).2.2 (ji160) p362 q362; obtain rfl : ad358 = ad362 := (by injection e362); replace p362 := eq_true p362; replace q362 := eq_true q362)))
   go_ret
   exact ⟨by first | rfl | (simp [errW_none, errW_some] <;> rfl) | (simp only [← hji160]; first | rfl | (simp [errW_none, errW_some] <;> rfl)) | (simp [*, errW_none, errW_some] <;> rfl), by repeat (first | (with_reducible first | exact HB.out | apply below_alloc | apply pw_below_drewN | apply below_drew1) | exact HB.out)⟩
 rw [if_pos c98] at H
 have c98b0 : decide (x39_5 < (t330.length : Int)) = true := decide_eq_true c98
 clear c98
 by_cases c99 : 0 ≤ x39_5
 rotate_left
 · rw [if_neg c99] at H
   exact absurd H (by simp)
 rw [if_pos c99] at H
 have c99b0 : decide (0 ≤ x39_5) = true := decide_eq_true c99
 clear c99
 obtain ⟨ji100, hji100⟩ : ∃ j_ : Int, (IntKind.u64.wrap (t325)) = j_ := ⟨_, rfl⟩
 replace H : (if 0 ≤ (ji100) then ((impl_RowValue.f k5 t292 (Go.bits .andNot .u32 (rd t330 x39_5) (shl .u32 1 (ji100)))).bind fun bt339 => ((impl_MayTurn.f k5 t292 (rd t330 x39_5)).bind fun bt342 => (if bt339.2 = 0 then (if bt342.2 = 0 then (if bt342.1 = true then (if (shr .u32 (rd t330 x39_5) (ji100)) = 1 then (if x39_5 > 0 then (if 0 ≤ (wrap64 (x39_5 - 1)) then (if (wrap64 (x39_5 - 1)) < (t330.length : Int) then (if (rd t330 x39_5) ≤ (rd t330 (wrap64 (x39_5 - 1))) then (some false) else (if x38_5.length < 70368744177664 then (laws_FnRows.l0 k5 t292 t312 t325 t330 (x38_5 ++ [bt339.1]) (wrap64 (x39_5 + 1))) else (none))) else (none)) else (none)) else (if x38_5.length < 70368744177664 then (laws_FnRows.l0 k5 t292 t312 t325 t330 (x38_5 ++ [bt339.1]) (wrap64 (x39_5 + 1))) else (none))) else (some false)) else (some false)) else (some false)) else (some false)))) else (none)) = some r := by first | (rw [hji100] at H; exact H) | (simp only [hji100] at H ⊢; exact H)
 by_cases c101 : 0 ≤ (ji100)
 rotate_left
 · rw [if_neg c101] at H
   exact absurd H (by simp)
 rw [if_pos c101] at H
 have c101b0 := eq_true c101
 have c101b1 : decide (0 ≤ (ji100)) = true := decide_eq_true c101
 clear c101
 obtain ⟨ji102, hji102⟩ : ∃ j_ : Int, (shl .u32 1 (ji100)) = j_ := ⟨_, rfl⟩
 replace H : ((impl_RowValue.f k5 t292 (Go.bits .andNot .u32 (rd t330 x39_5) (ji102))).bind fun bt339 => ((impl_MayTurn.f k5 t292 (rd t330 x39_5)).bind fun bt342 => (if bt339.2 = 0 then (if bt342.2 = 0 then (if bt342.1 = true then (if (shr .u32 (rd t330 x39_5) (ji100)) = 1 then (if x39_5 > 0 then (if 0 ≤ (wrap64 (x39_5 - 1)) then (if (wrap64 (x39_5 - 1)) < (t330.length : Int) then (if (rd t330 x39_5) ≤ (rd t330 (wrap64 (x39_5 - 1))) then (some false) else (if x38_5.length < 70368744177664 then (laws_FnRows.l0 k5 t292 t312 t325 t330 (x38_5 ++ [bt339.1]) (wrap64 (x39_5 + 1))) else (none))) else (none)) else (none)) else (if x38_5.length < 70368744177664 then (laws_FnRows.l0 k5 t292 t312 t325 t330 (x38_5 ++ [bt339.1]) (wrap64 (x39_5 + 1))) else (none))) else (some false)) else (some false)) else (some false)) else (some false)))) = some r := by first | (rw [hji102] at H; exact H) | (simp only [hji102] at H ⊢; exact H)
 have hji102_ : (IntKind.u32.wrap (1 * 2 ^ min (ji100).toNat 32)) = ji102 := hji102
 have hji102z : (ji100) ≤ 32 → (IntKind.u32.wrap (1 * 2 ^ (ji100).toNat)) = ji102 := shl_small hji102
 have hji102ge : 0 ≤ ji102 := by rw [← hji102]; exact shl_ge rfl _ _
 have hji102u : (IntKind.u32.wrap (2 ^ min (ji100).toNat 32)) = ji102 := by have h_ := hji102_; rw [Int.one_mul] at h_; exact h_
 have hji102v : (ji100) ≤ 32 → (IntKind.u32.wrap (2 ^ (ji100).toNat)) = ji102 := fun hle_ => by have h_ := hji102z hle_; rw [Int.one_mul] at h_; exact h_
 replace H := Option.bind_eq_some_iff.mp H
 obtain ⟨⟨t339, t340⟩, A1030, H⟩ := H
 replace H : ((impl_MayTurn.f k5 t292 (rd t330 x39_5)).bind fun bt342 => (if t340 = 0 then (if bt342.2 = 0 then (if bt342.1 = true then (if (shr .u32 (rd t330 x39_5) (ji100)) = 1 then (if x39_5 > 0 then (if 0 ≤ (wrap64 (x39_5 - 1)) then (if (wrap64 (x39_5 - 1)) < (t330.length : Int) then (if (rd t330 x39_5) ≤ (rd t330 (wrap64 (x39_5 - 1))) then (some false) else (if x38_5.length < 70368744177664 then (laws_FnRows.l0 k5 t292 t312 t325 t330 (x38_5 ++ [t339]) (wrap64 (x39_5 + 1))) else (none))) else (none)) else (none)) else (if x38_5.length < 70368744177664 then (laws_FnRows.l0 k5 t292 t312 t325 t330 (x38_5 ++ [t339]) (wrap64 (x39_5 + 1))) else (none))) else (some false)) else (some false)) else (some false)) else (some false))) = some r := H
 have A103 := Aside0.mk A1030
 clear A1030
 replace H := Option.bind_eq_some_iff.mp H
 obtain ⟨⟨t342, t343⟩, A1040, H⟩ := H
 replace H : (if t340 = 0 then (if t343 = 0 then (if t342 = true then (if (shr .u32 (rd t330 x39_5) (ji100)) = 1 then (if x39_5 > 0 then (if 0 ≤ (wrap64 (x39_5 - 1)) then (if (wrap64 (x39_5 - 1)) < (t330.length : Int) then (if (rd t330 x39_5) ≤ (rd t330 (wrap64 (x39_5 - 1))) then (some false) else (if x38_5.length < 70368744177664 then (laws_FnRows.l0 k5 t292 t312 t325 t330 (x38_5 ++ [t339]) (wrap64 (x39_5 + 1))) else (none))) else (none)) else (none)) else (if x38_5.length < 70368744177664 then (laws_FnRows.l0 k5 t292 t312 t325 t330 (x38_5 ++ [t339]) (wrap64 (x39_5 + 1))) else (none))) else (some false)) else (some false)) else (some false)) else (some false)) = some r := H
 have A104 := Aside0.mk A1040
 clear A1040
 by_cases c105 : t340 = 0
 rotate_left
 · rw [if_neg c105] at H
   have c105b0 : (t340 == 0) = false := beq_eq_false_iff_ne.mpr c105
   have c105b1 : (t340 != 0) = true := bne_iff_ne.mpr c105
   obtain rfl := Option.some.inj H
   exact absurd ht_ (by decide)
 rw [if_pos c105] at H
 have c105b0 : (t340 == 0) = true := beq_iff_eq.mpr c105
 have c105b1 : (t340 != 0) = false := bne_eq_false_iff_eq.mpr c105
 clear c105
 by_cases c106 : t343 = 0
 rotate_left
 · rw [if_neg c106] at H
   have c106b0 : (t343 == 0) = false := beq_eq_false_iff_ne.mpr c106
   have c106b1 : (t343 != 0) = true := bne_iff_ne.mpr c106
   obtain rfl := Option.some.inj H
   exact absurd ht_ (by decide)
 rw [if_pos c106] at H
 have c106b0 : (t343 == 0) = true := beq_iff_eq.mpr c106
 have c106b1 : (t343 != 0) = false := bne_eq_false_iff_eq.mpr c106
 clear c106
 by_cases c107 : t342 = true
 rotate_left
 · replace c107 := Bool.eq_false_iff.mpr c107
   subst c107
   have H1 : (some false) = some r := by rw [if_neg (show ¬ (false = true) by decide)] at H; exact H
   clear H
   have H := H1
   clear H1
   obtain rfl := Option.some.inj H
   exact absurd ht_ (by decide)
 subst c107
 have H1 : (if (shr .u32 (rd t330 x39_5) (ji100)) = 1 then (if x39_5 > 0 then (if 0 ≤ (wrap64 (x39_5 - 1)) then (if (wrap64 (x39_5 - 1)) < (t330.length : Int) then (if (rd t330 x39_5) ≤ (rd t330 (wrap64 (x39_5 - 1))) then (some false) else (if x38_5.length < 70368744177664 then (laws_FnRows.l0 k5 t292 t312 t325 t330 (x38_5 ++ [t339]) (wrap64 (x39_5 + 1))) else (none))) else (none)) else (none)) else (if x38_5.length < 70368744177664 then (laws_FnRows.l0 k5 t292 t312 t325 t330 (x38_5 ++ [t339]) (wrap64 (x39_5 + 1))) else (none))) else (some false)) = some r := by rw [if_pos rfl] at H; exact H
 clear H
 have H := H1
 clear H1
 have c108b0 := eq_true (of_decide_eq_true (by first | (with_reducible assumption) | assumption) : 0 ≤ (ji100))
 obtain ⟨ji109, hji109⟩ : ∃ j_ : Int, (shr .u32 (rd t330 x39_5) (ji100)) = j_ := ⟨_, rfl⟩
 replace H : (if (ji109) = 1 then (if x39_5 > 0 then (if 0 ≤ (wrap64 (x39_5 - 1)) then (if (wrap64 (x39_5 - 1)) < (t330.length : Int) then (if (rd t330 x39_5) ≤ (rd t330 (wrap64 (x39_5 - 1))) then (some false) else (if x38_5.length < 70368744177664 then (laws_FnRows.l0 k5 t292 t312 t325 t330 (x38_5 ++ [t339]) (wrap64 (x39_5 + 1))) else (none))) else (none)) else (none)) else (if x38_5.length < 70368744177664 then (laws_FnRows.l0 k5 t292 t312 t325 t330 (x38_5 ++ [t339]) (wrap64 (x39_5 + 1))) else (none))) else (some false)) = some r := by first | (rw [hji109] at H; exact H) | (simp only [hji109] at H ⊢; exact H)
 (try rw [hji109] at A103)
 (try rw [hji109] at A104)
 have hji109_ : ((rd t330 x39_5) / 2 ^ min (ji100).toNat 32) = ji109 := hji109
 have hji109z : (ji100) ≤ 32 → ((rd t330 x39_5) / 2 ^ (ji100).toNat) = ji109 := shr_small hji109
 by_cases c110 : (ji109) = 1
 rotate_left
 · rw [if_neg c110] at H
   have c110b0 : ((ji109) == 1) = false := beq_eq_false_iff_ne.mpr c110
   have c110b1 : ((ji109) != 1) = true := bne_iff_ne.mpr c110
   obtain rfl := Option.some.inj H
   exact absurd ht_ (by decide)
 rw [if_pos c110] at H
 have c110b0 : ((ji109) == 1) = true := beq_iff_eq.mpr c110
 have c110b1 : ((ji109) != 1) = false := bne_eq_false_iff_eq.mpr c110
 clear c110
 by_cases c111 : x39_5 > 0
 rotate_left
 · rw [if_neg c111] at H
   have c111b0 : decide (0 < x39_5) = false := decide_eq_false c111
   clear c111
   by_cases c122 : x38_5.length < 70368744177664
   rotate_left
   · rw [if_neg c122] at H
     exact absurd H (by simp)
   rw [if_pos c122] at H
   have LMc122 := Aside0.mk c122
   clear c122
   obtain ⟨y350, hy350⟩ : ∃ y_ : List Int, y_ = (x38_5 ++ [t339]) := ⟨_, rfl⟩
   replace H : (laws_FnRows.l0 k5 t292 t312 t325 t330 y350 (wrap64 (x39_5 + 1))) = some r := by first | (rw [hy350]; with_reducible exact H) | (have H2_ := (Option.bind_some _ _).symm.trans H; rw [hy350]; with_reducible exact H2_) | (have H2_ := (Option.bind_some _ _).symm.trans H; with_reducible exact H2_) | with_reducible exact H | (rw [hy350]; exact H) | exact H
   have Ny350 := Aside0.mk hy350
   clear hy350
   have H' := Aside0.mk H
   clear H
   obtain ⟨Ao123, co123, eo123⟩ := Kd.R_slice HO_36.out
   subst eo123
   have p338 : 0 ≤ (x39_5 : Int) := of_decide_eq_true (by first | (with_reducible assumption) | assumption)
   have q338 : x39_5 < (t330.length : Int) := of_decide_eq_true (by first | (with_reducible assumption) | assumption)
   obtain ⟨ad338, e338, hx338_0⟩ := Kd.at_int (Kd.R_reads' HO_36.out).2.2 x39_5 p338 q338
   cases e338
   replace p338 := eq_true p338
   replace q338 := eq_true q338
   go_wp2_with (first | (go_at_call 10; (with_reducible refine (impl_RowValue.calls k5 t292 (Go.bits .andNot .u32 (rd t330 x39_5) (ji102)) t339 t340 _ (by first | ((repeat (first | exact HTT.out | apply RT.drewN | apply RT.drew)); done) | exact (HTT.out.on (by repeat (first | (with_reducible first | exact HB.out | apply below_alloc | apply pw_below_drewN | apply below_drew1) | exact HB.out)))) A103.out).mono ?_); rintro e w124 ⟨rfl, hb⟩; have n0_ := Aside0.mk (Kd.R_below (by (with_reducible repeat (first | apply Kd.R_alloc | apply Kd.R_drewN | apply Kd.R_drew)); exact HO_23.out) hb); have n1_ := Aside0.mk (Kd.R_below (by (with_reducible repeat (first | apply Kd.R_alloc | apply Kd.R_drewN | apply Kd.R_drew)); exact HO_36.out) hb); have n2_ := Aside0.mk (Kd.R_below (by (with_reducible repeat (first | apply Kd.R_alloc | apply Kd.R_drewN | apply Kd.R_drew)); exact HO_38.out) hb); have n3_ := Aside0.mk (below_step (by repeat (first | (with_reducible first | exact HB.out | apply below_alloc | apply pw_below_drewN | apply below_drew1) | exact HB.out)) hb); clear HO_23; clear HO_36; clear HO_38; clear HB; have HO_23 := n0_; have HO_36 := n1_; have HO_38 := n2_; have HB := n3_; clear n0_ n1_ n2_ n3_; (try clear hb); (try clear hb2); (try clear hk); (try clear hi); have p341 : 0 ≤ (x39_5 : Int) := of_decide_eq_true (by first | (with_reducible assumption) | assumption); have q341 : x39_5 < (t330.length : Int) := of_decide_eq_true (by first | (with_reducible assumption) | assumption); obtain ⟨ad341, e341, hx341_0⟩ := Kd.at_int (Kd.R_reads' HO_36.out).2.2 x39_5 p341 q341; obtain rfl : ad338 = ad341 := (by injection e341); replace p341 := eq_true p341; replace q341 := eq_true q341) | (go_at_call 20; (with_reducible refine (impl_MayTurn.calls k5 t292 (rd t330 x39_5) true t343 _ (by first | ((repeat (first | exact HTT.out | apply RT.drewN | apply RT.drew)); done) | exact (HTT.out.on (by repeat (first | (with_reducible first | exact HB.out | apply below_alloc | apply pw_below_drewN | apply below_drew1) | exact HB.out)))) A104.out).mono ?_); rintro e w' ⟨rfl, ⟨nd, rfl⟩⟩; (try first | exact ⟨rfl, _, World.drewN_drewN _ _ _⟩ | exact ⟨rfl, _, Eq.trans (World.drewN_drewN _ _ _) (congrArg (World.drewN _) (Nat.add_assoc _ _ _))⟩); have p344 : 0 ≤ (x39_5 : Int) := of_decide_eq_true (by first | (with_reducible assumption) | assumption); have q344 : x39_5 < (t330.length : Int) := of_decide_eq_true (by first | (with_reducible assumption) | assumption); obtain ⟨ad344, e344, hx344_0⟩ := Kd.at_int (Kd.R_reads' HO_36.out).2.2 x39_5 p344 q344; obtain rfl : ad338 = ad344 := (by injection e344); replace p344 := eq_true p344; replace q344 := eq_true q344) | ((with_reducible refine gate_builtin (b := .append) (xs := #[.tmp 339, .tmp 341]) rfl ?_); (try (refine gate_guard (by rfl) ?_; dsimp only)); at_builtin; refine Kd.R_append (Kd.int .u16) (w0 := w) w.heap.size rfl (.tmp 339) (.tmp 341) 38 28 (.int .u16 0) 2 rfl Tryd.underlying38 info28 rfl (by decide) (by omega) u38 x38_5 t339 [.int .u16 t339] (fun k_ => some k_ ≠ (v314 : Value).ownBlock) (fun _ => False) rfl rfl ?aP (fun _ hk => hk.elim) ?aF ?aO ?aB ?aS ?aL ?_; (case aP => exact rfl); (case aB => exact (by repeat (first | (with_reducible first | exact HB.out | apply below_alloc | apply pw_below_drewN | apply below_drew1) | exact HB.out))); (case aF => exact (fun k_ hk => Kd.fresh' (Kd.R_lt (by (with_reducible repeat (first | apply Kd.R_alloc | apply Kd.R_drewN | apply Kd.R_drew)); exact HO_23.out)) k_ hk)); (case aO => exact (by (with_reducible repeat (first | apply Kd.R_alloc | apply Kd.R_drewN | apply Kd.R_drew)); exact HO_38.out)); (case aS => exact (below_size (by repeat (first | (with_reducible first | exact HB.out | apply below_alloc | apply pw_below_drewN | apply below_drew1) | exact HB.out)))); (case aL => have := LMc122.out; omega); intro v351 w125 ho hb hg hat; rw [← Ny350.out] at ho; have n0_ := Aside0.mk (Kd.R_after (ok := (fun _ => True)) (by (with_reducible repeat (first | apply Kd.R_alloc | apply Kd.R_drewN | apply Kd.R_drew)); exact Kd.R_mono HO_23.out (fun _ hk => ⟨trivial, hk⟩)) hg hat); have n1_ := Aside0.mk (Kd.R_over' (by (with_reducible repeat (first | apply Kd.R_alloc | apply Kd.R_drewN | apply Kd.R_drew)); exact HO_36.out) (Kd.R_typed (by (with_reducible repeat (first | apply Kd.R_alloc | apply Kd.R_drewN | apply Kd.R_drew)); exact HO_38.out)) (by decide) hg); have n2_ := Aside0.mk (hb); have n3_ := Aside0.mk (ho); clear HO_23; clear HO_36; clear HB; clear HO_38; have HO_23 := n0_; have HO_36 := n1_; have HB := n2_; have HO352 := n3_; clear n0_ n1_ n2_ n3_; clear ho hb hg hat))
   repeat (go_quiet (first | (go_at_call 10; (with_reducible refine (impl_RowValue.calls k5 t292 (Go.bits .andNot .u32 (rd t330 x39_5) (ji102)) t339 t340 _ (by first | ((repeat (first | exact HTT.out | apply RT.drewN | apply RT.drew)); done) | exact (HTT.out.on (by repeat (first | (with_reducible first | exact HB.out | apply below_alloc | apply pw_below_drewN | apply below_drew1) | exact HB.out)))) A103.out).mono ?_); rintro e w124 ⟨rfl, hb⟩; have n0_ := Aside0.mk (Kd.R_below (by (with_reducible repeat (first | apply Kd.R_alloc | apply Kd.R_drewN | apply Kd.R_drew)); exact HO_23.out) hb); have n1_ := Aside0.mk (Kd.R_below (by (with_reducible repeat (first | apply Kd.R_alloc | apply Kd.R_drewN | apply Kd.R_drew)); exact HO_36.out) hb); have n2_ := Aside0.mk (Kd.R_below (by (with_reducible repeat (first | apply Kd.R_alloc | apply Kd.R_drewN | apply Kd.R_drew)); exact HO_38.out) hb); have n3_ := Aside0.mk (below_step (by repeat (first | (with_reducible first | exact HB.out | apply below_alloc | apply pw_below_drewN | apply below_drew1) | exact HB.out)) hb); clear HO_23; clear HO_36; clear HO_38; clear HB; have HO_23 := n0_; have HO_36 := n1_; have HO_38 := n2_; have HB := n3_; clear n0_ n1_ n2_ n3_; (try clear hb); (try clear hb2); (try clear hk); (try clear hi); have p341 : 0 ≤ (x39_5 : Int) := of_decide_eq_true (by first | (with_reducible assumption) | assumption); have q341 : x39_5 < (t330.length : Int) := of_decide_eq_true (by first | (with_reducible assumption) | assumption); obtain ⟨ad341, e341, hx341_0⟩ := Kd.at_int (Kd.R_reads' HO_36.out).2.2 x39_5 p341 q341; obtain rfl : ad338 = ad341 := (by injection e341); replace p341 := eq_true p341; replace q341 := eq_true q341) | (go_at_call 20; (with_reducible refine (impl_MayTurn.calls k5 t292 (rd t330 x39_5) true t343 _ (by first | ((repeat (first | exact HTT.out | apply RT.drewN | apply RT.drew)); done) | exact (HTT.out.on (by repeat (first | (with_reducible first | exact HB.out | apply below_alloc | apply pw_below_drewN | apply below_drew1) | exact HB.out)))) A104.out).mono ?_); rintro e w' ⟨rfl, ⟨nd, rfl⟩⟩; (try first | exact ⟨rfl, _, World.drewN_drewN _ _ _⟩ | exact ⟨rfl, _, Eq.trans (World.drewN_drewN _ _ _) (congrArg (World.drewN _) (Nat.add_assoc _ _ _))⟩); have p344 : 0 ≤ (x39_5 : Int) := of_decide_eq_true (by first | (with_reducible assumption) | assumption); have q344 : x39_5 < (t330.length : Int) := of_decide_eq_true (by first | (with_reducible assumption) | assumption); obtain ⟨ad344, e344, hx344_0⟩ := Kd.at_int (Kd.R_reads' HO_36.out).2.2 x39_5 p344 q344; obtain rfl : ad338 = ad344 := (by injection e344); replace p344 := eq_true p344; replace q344 := eq_true q344) | ((with_reducible refine gate_builtin (b := .append) (xs := #[.tmp 339, .tmp 341]) rfl ?_); (try (refine gate_guard (by rfl) ?_; dsimp only)); at_builtin; refine Kd.R_append (Kd.int .u16) (w0 := w) w.heap.size rfl (.tmp 339) (.tmp 341) 38 28 (.int .u16 0) 2 rfl Tryd.underlying38 info28 rfl (by decide) (by omega) u38 x38_5 t339 [.int .u16 t339] (fun k_ => some k_ ≠ (v314 : Value).ownBlock) (fun _ => False) rfl rfl ?aP (fun _ hk => hk.elim) ?aF ?aO ?aB ?aS ?aL ?_; (case aP => exact rfl); (case aB => exact (by repeat (first | (with_reducible first | exact HB.out | apply below_alloc | apply pw_below_drewN | apply below_drew1) | exact HB.out))); (case aF => exact (fun k_ hk => Kd.fresh' (Kd.R_lt (by (with_reducible repeat (first | apply Kd.R_alloc | apply Kd.R_drewN | apply Kd.R_drew)); exact HO_23.out)) k_ hk)); (case aO => exact (by (with_reducible repeat (first | apply Kd.R_alloc | apply Kd.R_drewN | apply Kd.R_drew)); exact HO_38.out)); (case aS => exact (below_size (by repeat (first | (with_reducible first | exact HB.out | apply below_alloc | apply pw_below_drewN | apply below_drew1) | exact HB.out)))); (case aL => have := LMc122.out; omega); intro v351 w125 ho hb hg hat; rw [← Ny350.out] at ho; have n0_ := Aside0.mk (Kd.R_after (ok := (fun _ => True)) (by (with_reducible repeat (first | apply Kd.R_alloc | apply Kd.R_drewN | apply Kd.R_drew)); exact Kd.R_mono HO_23.out (fun _ hk => ⟨trivial, hk⟩)) hg hat); have n1_ := Aside0.mk (Kd.R_over' (by (with_reducible repeat (first | apply Kd.R_alloc | apply Kd.R_drewN | apply Kd.R_drew)); exact HO_36.out) (Kd.R_typed (by (with_reducible repeat (first | apply Kd.R_alloc | apply Kd.R_drewN | apply Kd.R_drew)); exact HO_38.out)) (by decide) hg); have n2_ := Aside0.mk (hb); have n3_ := Aside0.mk (ho); clear HO_23; clear HO_36; clear HB; clear HO_38; have HO_23 := n0_; have HO_36 := n1_; have HB := n2_; have HO352 := n3_; clear n0_ n1_ n2_ n3_; clear ho hb hg hat)); try go_wp2_with (first | (go_at_call 10; (with_reducible refine (impl_RowValue.calls k5 t292 (Go.bits .andNot .u32 (rd t330 x39_5) (ji102)) t339 t340 _ (by first | ((repeat (first | exact HTT.out | apply RT.drewN | apply RT.drew)); done) | exact (HTT.out.on (by repeat (first | (with_reducible first | exact HB.out | apply below_alloc | apply pw_below_drewN | apply below_drew1) | exact HB.out)))) A103.out).mono ?_); rintro e w124 ⟨rfl, hb⟩; have n0_ := Aside0.mk (Kd.R_below (by (with_reducible repeat (first | apply Kd.R_alloc | apply Kd.R_drewN | apply Kd.R_drew)); exact HO_23.out) hb); have n1_ := Aside0.mk (Kd.R_below (by (with_reducible repeat (first | apply Kd.R_alloc | apply Kd.R_drewN | apply Kd.R_drew)); exact HO_36.out) hb); have n2_ := Aside0.mk (Kd.R_below (by (with_reducible repeat (first | apply Kd.R_alloc | apply Kd.R_drewN | apply Kd.R_drew)); exact HO_38.out) hb); have n3_ := Aside0.mk (below_step (by repeat (first | (with_reducible first | exact HB.out | apply below_alloc | apply pw_below_drewN | apply below_drew1) | exact HB.out)) hb); clear HO_23; clear HO_36; clear HO_38; clear HB; have HO_23 := n0_; have HO_36 := n1_; have HO_38 := n2_; have HB := n3_; clear n0_ n1_ n2_ n3_; (try clear hb); (try clear hb2); (try clear hk); (try clear hi); have p341 : 0 ≤ (x39_5 : Int) := of_decide_eq_true (by first | (with_reducible assumption) | assumption); have q341 : x39_5 < (t330.length : Int) := of_decide_eq_true (by first | (with_reducible assumption) | assumption); obtain ⟨ad341, e341, hx341_0⟩ := Kd.at_int (Kd.R_reads' HO_36.out).2.2 x39_5 p341 q341; obtain rfl : ad338 = ad341 := (by injection e341); replace p341 := eq_true p341; replace q341 := eq_true q341) | (go_at_call 20; (with_reducible refine (impl_MayTurn.calls k5 t292 (rd t330 x39_5) true t343 _ (by first | ((repeat (first | exact HTT.out | apply RT.drewN | apply RT.drew)); done) | exact (HTT.out.on (by repeat (first | (with_reducible first | exact HB.out | apply below_alloc | apply pw_below_drewN | apply below_drew1) | exact HB.out)))) A104.out).mono ?_); rintro e w' ⟨rfl, ⟨nd, rfl⟩⟩; (try first | exact ⟨rfl, _, World.drewN_drewN _ _ _⟩ | exact ⟨rfl, _, Eq.trans (World.drewN_drewN _ _ _) (congrArg (World.drewN _) (Nat.add_assoc _ _ _))⟩); have p344 : 0 ≤ (x39_5 : Int) := of_decide_eq_true (by first | (with_reducible assumption) | assumption); have q344 : x39_5 < (t330.length : Int) := of_decide_eq_true (by first | (with_reducible assumption) | assumption); obtain ⟨ad344, e344, hx344_0⟩ := Kd.at_int (Kd.R_reads' HO_36.out).2.2 x39_5 p344 q344; obtain rfl : ad338 = ad344 := (by injection e344); replace p344 := eq_true p344; replace q344 := eq_true q344) | ((with_reducible refine gate_builtin (b := .append) (xs := #[.tmp 339, .tmp 341]) rfl ?_); (try (refine gate_guard (by rfl) ?_; dsimp only)); at_builtin; refine Kd.R_append (Kd.int .u16) (w0 := w) w.heap.size rfl (.tmp 339) (.tmp 341) 38 28 (.int .u16 0) 2 rfl Tryd.underlying38 info28 rfl (by decide) (by omega) u38 x38_5 t339 [.int .u16 t339] (fun k_ => some k_ ≠ (v314 : Value).ownBlock) (fun _ => False) rfl rfl ?aP (fun _ hk => hk.elim) ?aF ?aO ?aB ?aS ?aL ?_; (case aP => exact rfl); (case aB => exact (by repeat (first | (with_reducible first | exact HB.out | apply below_alloc | apply pw_below_drewN | apply below_drew1) | exact HB.out))); (case aF => exact (fun k_ hk => Kd.fresh' (Kd.R_lt (by (with_reducible repeat (first | apply Kd.R_alloc | apply Kd.R_drewN | apply Kd.R_drew)); exact HO_23.out)) k_ hk)); (case aO => exact (by (with_reducible repeat (first | apply Kd.R_alloc | apply Kd.R_drewN | apply Kd.R_drew)); exact HO_38.out)); (case aS => exact (below_size (by repeat (first | (with_reducible first | exact HB.out | apply below_alloc | apply pw_below_drewN | apply below_drew1) | exact HB.out)))); (case aL => have := LMc122.out; omega); intro v351 w125 ho hb hg hat; rw [← Ny350.out] at ho; have n0_ := Aside0.mk (Kd.R_after (ok := (fun _ => True)) (by (with_reducible repeat (first | apply Kd.R_alloc | apply Kd.R_drewN | apply Kd.R_drew)); exact Kd.R_mono HO_23.out (fun _ hk => ⟨trivial, hk⟩)) hg hat); have n1_ := Aside0.mk (Kd.R_over' (by (with_reducible repeat (first | apply Kd.R_alloc | apply Kd.R_drewN | apply Kd.R_drew)); exact HO_36.out) (Kd.R_typed (by (with_reducible repeat (first | apply Kd.R_alloc | apply Kd.R_drewN | apply Kd.R_drew)); exact HO_38.out)) (by decide) hg); have n2_ := Aside0.mk (hb); have n3_ := Aside0.mk (ho); clear HO_23; clear HO_36; clear HB; clear HO_38; have HO_23 := n0_; have HO_36 := n1_; have HB := n2_; have HO352 := n3_; clear n0_ n1_ n2_ n3_; clear ho hb hg hat)))
   go_roundg k5
   case measure => have := HJ2.out; have := HJ18.out; have := HJ49.out; have := HJ85.out; have := HK5.out; omega
   case rel => exact ⟨(y350), (wrap64 (x39_5 + 1)), (by first | rfl | (simp; done) | (simp [*]; done)), H', ⟨by have := HJ2.out; have := HJ18.out; have := HJ49.out; have := HJ85.out; have := HK5.out; omega⟩, ⟨by (with_reducible repeat (first | apply Kd.R_alloc | apply Kd.R_drewN | apply Kd.R_drew)); exact Kd.R_mono HO_23.out (fun _ hk => hk.2)⟩, ⟨by (with_reducible repeat (first | apply Kd.R_alloc | apply Kd.R_drewN | apply Kd.R_drew)); exact HO_36.out⟩, ⟨by (with_reducible repeat (first | apply Kd.R_alloc | apply Kd.R_drewN | apply Kd.R_drew)); exact HO352.out⟩, ⟨by repeat (first | (with_reducible first | exact HB.out | apply below_alloc | apply pw_below_drewN | apply below_drew1) | exact HB.out)⟩⟩
 rw [if_pos c111] at H
 have c111b0 : decide (0 < x39_5) = true := decide_eq_true c111
 clear c111
 obtain ⟨ji112, hji112⟩ : ∃ j_ : Int, (wrap64 (x39_5 - 1)) = j_ := ⟨_, rfl⟩
 replace H : (if 0 ≤ (ji112) then (if (ji112) < (t330.length : Int) then (if (rd t330 x39_5) ≤ (rd t330 (ji112)) then (some false) else (if x38_5.length < 70368744177664 then (laws_FnRows.l0 k5 t292 t312 t325 t330 (x38_5 ++ [t339]) (wrap64 (x39_5 + 1))) else (none))) else (none)) else (none)) = some r := by first | (rw [hji112] at H; exact H) | (simp only [hji112] at H ⊢; exact H)
 (try rw [hji112] at A103)
 (try rw [hji112] at A104)
 have hji112w : (IntKind.i64.wrap (x39_5 - 1)) = ji112 := (i64_w _).trans hji112
 by_cases c113 : 0 ≤ (ji112)
 rotate_left
 · rw [if_neg c113] at H
   exact absurd H (by simp)
 rw [if_pos c113] at H
 have c113b0 : decide (0 ≤ (ji112)) = true := decide_eq_true c113
 clear c113
 by_cases c114 : (ji112) < (t330.length : Int)
 rotate_left
 · rw [if_neg c114] at H
   exact absurd H (by simp)
 rw [if_pos c114] at H
 have c114b0 : decide ((ji112) < (t330.length : Int)) = true := decide_eq_true c114
 clear c114
 by_cases c115 : (rd t330 x39_5) ≤ (rd t330 (ji112))
 · rw [if_pos c115] at H
   have c115b0 : decide ((rd t330 x39_5) ≤ (rd t330 (ji112))) = true := decide_eq_true c115
   clear c115
   obtain rfl := Option.some.inj H
   exact absurd ht_ (by decide)
 rw [if_neg c115] at H
 have c115b0 : decide ((rd t330 x39_5) ≤ (rd t330 (ji112))) = false := decide_eq_false c115
 clear c115
 by_cases c118 : x38_5.length < 70368744177664
 rotate_left
 · rw [if_neg c118] at H
   exact absurd H (by simp)
 rw [if_pos c118] at H
 have LMc118 := Aside0.mk c118
 clear c118
 obtain ⟨y347, hy347⟩ : ∃ y_ : List Int, y_ = (x38_5 ++ [t339]) := ⟨_, rfl⟩
 replace H : (laws_FnRows.l0 k5 t292 t312 t325 t330 y347 (wrap64 (x39_5 + 1))) = some r := by first | (rw [hy347]; with_reducible exact H) | (have H2_ := (Option.bind_some _ _).symm.trans H; rw [hy347]; with_reducible exact H2_) | (have H2_ := (Option.bind_some _ _).symm.trans H; with_reducible exact H2_) | with_reducible exact H | (rw [hy347]; exact H) | exact H
 have Ny347 := Aside0.mk hy347
 clear hy347
 have H' := Aside0.mk H
 clear H
 obtain ⟨Ao119, co119, eo119⟩ := Kd.R_slice HO_36.out
 subst eo119
 have p338 : 0 ≤ (x39_5 : Int) := of_decide_eq_true (by first | (with_reducible assumption) | assumption)
 have q338 : x39_5 < (t330.length : Int) := of_decide_eq_true (by first | (with_reducible assumption) | assumption)
 obtain ⟨ad338, e338, hx338_0⟩ := Kd.at_int (Kd.R_reads' HO_36.out).2.2 x39_5 p338 q338
 cases e338
 replace p338 := eq_true p338
 replace q338 := eq_true q338
 go_wp2_with (first | (go_at_call 10; (with_reducible refine (impl_RowValue.calls k5 t292 (Go.bits .andNot .u32 (rd t330 x39_5) (ji102)) t339 t340 _ (by first | ((repeat (first | exact HTT.out | apply RT.drewN | apply RT.drew)); done) | exact (HTT.out.on (by repeat (first | (with_reducible first | exact HB.out | apply below_alloc | apply pw_below_drewN | apply below_drew1) | exact HB.out)))) A103.out).mono ?_); rintro e w120 ⟨rfl, hb⟩; have n0_ := Aside0.mk (Kd.R_below (by (with_reducible repeat (first | apply Kd.R_alloc | apply Kd.R_drewN | apply Kd.R_drew)); exact HO_23.out) hb); have n1_ := Aside0.mk (Kd.R_below (by (with_reducible repeat (first | apply Kd.R_alloc | apply Kd.R_drewN | apply Kd.R_drew)); exact HO_36.out) hb); have n2_ := Aside0.mk (Kd.R_below (by (with_reducible repeat (first | apply Kd.R_alloc | apply Kd.R_drewN | apply Kd.R_drew)); exact HO_38.out) hb); have n3_ := Aside0.mk (below_step (by repeat (first | (with_reducible first | exact HB.out | apply below_alloc | apply pw_below_drewN | apply below_drew1) | exact HB.out)) hb); clear HO_23; clear HO_36; clear HO_38; clear HB; have HO_23 := n0_; have HO_36 := n1_; have HO_38 := n2_; have HB := n3_; clear n0_ n1_ n2_ n3_; (try clear hb); (try clear hb2); (try clear hk); (try clear hi); have p341 : 0 ≤ (x39_5 : Int) := of_decide_eq_true (by first | (with_reducible assumption) | assumption); have q341 : x39_5 < (t330.length : Int) := of_decide_eq_true (by first | (with_reducible assumption) | assumption); obtain ⟨ad341, e341, hx341_0⟩ := Kd.at_int (Kd.R_reads' HO_36.out).2.2 x39_5 p341 q341; obtain rfl : ad338 = ad341 := (by injection e341); replace p341 := eq_true p341; replace q341 := eq_true q341) | (go_at_call 20; (with_reducible refine (impl_MayTurn.calls k5 t292 (rd t330 x39_5) true t343 _ (by first | ((repeat (first | exact HTT.out | apply RT.drewN | apply RT.drew)); done) | exact (HTT.out.on (by repeat (first | (with_reducible first | exact HB.out | apply below_alloc | apply pw_below_drewN | apply below_drew1) | exact HB.out)))) A104.out).mono ?_); rintro e w' ⟨rfl, ⟨nd, rfl⟩⟩; (try first | exact ⟨rfl, _, World.drewN_drewN _ _ _⟩ | exact ⟨rfl, _, Eq.trans (World.drewN_drewN _ _ _) (congrArg (World.drewN _) (Nat.add_assoc _ _ _))⟩); have p344 : 0 ≤ (x39_5 : Int) := of_decide_eq_true (by first | (with_reducible assumption) | assumption); have q344 : x39_5 < (t330.length : Int) := of_decide_eq_true (by first | (with_reducible assumption) | assumption); obtain ⟨ad344, e344, hx344_0⟩ := Kd.at_int (Kd.R_reads' HO_36.out).2.2 x39_5 p344 q344; obtain rfl : ad338 = ad344 := (by injection e344); replace p344 := eq_true p344; replace q344 := eq_true q344; have p345 : 0 ≤ (x39_5 : Int) := of_decide_eq_true (by first | (with_reducible assumption) | assumption); have q345 : x39_5 < (t330.length : Int) := of_decide_eq_true (by first | (with_reducible assumption) | assumption); obtain ⟨ad345, e345, hx345_0⟩ := Kd.at_int (Kd.R_reads' HO_36.out).2.2 x39_5 p345 q345; obtain rfl : ad338 = ad345 := (by injection e345); replace p345 := eq_true p345; replace q345 := eq_true q345; have p346 : 0 ≤ ((ji112) : Int) := of_decide_eq_true (by first | (with_reducible assumption) | assumption); have q346 : (ji112) < (t330.length : Int) := of_decide_eq_true (by first | (with_reducible assumption) | assumption); obtain ⟨ad346, e346, hx346_0⟩ := Kd.at_int (Kd.R_reads' HO_36.out).2.2 (ji112) p346 q346; obtain rfl : ad338 = ad346 := (by injection e346); replace p346 := eq_true p346; replace q346 := eq_true q346) | ((with_reducible refine gate_builtin (b := .append) (xs := #[.tmp 339, .tmp 341]) rfl ?_); (try (refine gate_guard (by rfl) ?_; dsimp only)); at_builtin; refine Kd.R_append (Kd.int .u16) (w0 := w) w.heap.size rfl (.tmp 339) (.tmp 341) 38 28 (.int .u16 0) 2 rfl Tryd.underlying38 info28 rfl (by decide) (by omega) u38 x38_5 t339 [.int .u16 t339] (fun k_ => some k_ ≠ (v314 : Value).ownBlock) (fun _ => False) rfl rfl ?aP (fun _ hk => hk.elim) ?aF ?aO ?aB ?aS ?aL ?_; (case aP => exact rfl); (case aB => exact (by repeat (first | (with_reducible first | exact HB.out | apply below_alloc | apply pw_below_drewN | apply below_drew1) | exact HB.out))); (case aF => exact (fun k_ hk => Kd.fresh' (Kd.R_lt (by (with_reducible repeat (first | apply Kd.R_alloc | apply Kd.R_drewN | apply Kd.R_drew)); exact HO_23.out)) k_ hk)); (case aO => exact (by (with_reducible repeat (first | apply Kd.R_alloc | apply Kd.R_drewN | apply Kd.R_drew)); exact HO_38.out)); (case aS => exact (below_size (by repeat (first | (with_reducible first | exact HB.out | apply below_alloc | apply pw_below_drewN | apply below_drew1) | exact HB.out)))); (case aL => have := LMc118.out; omega); intro v348 w121 ho hb hg hat; rw [← Ny347.out] at ho; have n0_ := Aside0.mk (Kd.R_after (ok := (fun _ => True)) (by (with_reducible repeat (first | apply Kd.R_alloc | apply Kd.R_drewN | apply Kd.R_drew)); exact Kd.R_mono HO_23.out (fun _ hk => ⟨trivial, hk⟩)) hg hat); have n1_ := Aside0.mk (Kd.R_over' (by (with_reducible repeat (first | apply Kd.R_alloc | apply Kd.R_drewN | apply Kd.R_drew)); exact HO_36.out) (Kd.R_typed (by (with_reducible repeat (first | apply Kd.R_alloc | apply Kd.R_drewN | apply Kd.R_drew)); exact HO_38.out)) (by decide) hg); have n2_ := Aside0.mk (hb); have n3_ := Aside0.mk (ho); clear HO_23; clear HO_36; clear HB; clear HO_38; have HO_23 := n0_; have HO_36 := n1_; have HB := n2_; have HO349 := n3_; clear n0_ n1_ n2_ n3_; clear ho hb hg hat))
 repeat (go_quiet (first | (go_at_call 10; (with_reducible refine (impl_RowValue.calls k5 t292 (Go.bits .andNot .u32 (rd t330 x39_5) (ji102)) t339 t340 _ (by first | ((repeat (first | exact HTT.out | apply RT.drewN | apply RT.drew)); done) | exact (HTT.out.on (by repeat (first | (with_reducible first | exact HB.out | apply below_alloc | apply pw_below_drewN | apply below_drew1) | exact HB.out)))) A103.out).mono ?_); rintro e w120 ⟨rfl, hb⟩; have n0_ := Aside0.mk (Kd.R_below (by (with_reducible repeat (first | apply Kd.R_alloc | apply Kd.R_drewN | apply Kd.R_drew)); exact HO_23.out) hb); have n1_ := Aside0.mk (Kd.R_below (by (with_reducible repeat (first | apply Kd.R_alloc | apply Kd.R_drewN | apply Kd.R_drew)); exact HO_36.out) hb); have n2_ := Aside0.mk (Kd.R_below (by (with_reducible repeat (first | apply Kd.R_alloc | apply Kd.R_drewN | apply Kd.R_drew)); exact HO_38.out) hb); have n3_ := Aside0.mk (below_step (by repeat (first | (with_reducible first | exact HB.out | apply below_alloc | apply pw_below_drewN | apply below_drew1) | exact HB.out)) hb); clear HO_23; clear HO_36; clear HO_38; clear HB; have HO_23 := n0_; have HO_36 := n1_; have HO_38 := n2_; have HB := n3_; clear n0_ n1_ n2_ n3_; (try clear hb); (try clear hb2); (try clear hk); (try clear hi); have p341 : 0 ≤ (x39_5 : Int) := of_decide_eq_true (by first | (with_reducible assumption) | assumption); have q341 : x39_5 < (t330.length : Int) := of_decide_eq_true (by first | (with_reducible assumption) | assumption); obtain ⟨ad341, e341, hx341_0⟩ := Kd.at_int (Kd.R_reads' HO_36.out).2.2 x39_5 p341 q341; obtain rfl : ad338 = ad341 := (by injection e341); replace p341 := eq_true p341; replace q341 := eq_true q341) | (go_at_call 20; (with_reducible refine (impl_MayTurn.calls k5 t292 (rd t330 x39_5) true t343 _ (by first | ((repeat (first | exact HTT.out | apply RT.drewN | apply RT.drew)); done) | exact (HTT.out.on (by repeat (first | (with_reducible first | exact HB.out | apply below_alloc | apply pw_below_drewN | apply below_drew1) | exact HB.out)))) A104.out).mono ?_); rintro e w' ⟨rfl, ⟨nd, rfl⟩⟩; (try first | exact ⟨rfl, _, World.drewN_drewN _ _ _⟩ | exact ⟨rfl, _, Eq.trans (World.drewN_drewN _ _ _) (congrArg (World.drewN _) (Nat.add_assoc _ _ _))⟩); have p344 : 0 ≤ (x39_5 : Int) := of_decide_eq_true (by first | (with_reducible assumption) | assumption); have q344 : x39_5 < (t330.length : Int) := of_decide_eq_true (by first | (with_reducible assumption) | assumption); obtain ⟨ad344, e344, hx344_0⟩ := Kd.at_int (Kd.R_reads' HO_36.out).2.2 x39_5 p344 q344; obtain rfl : ad338 = ad344 := (by injection e344); replace p344 := eq_true p344; replace q344 := eq_true q344; have p345 : 0 ≤ (x39_5 : Int) := of_decide_eq_true (by first | (with_reducible assumption) | assumption); have q345 : x39_5 < (t330.length : Int) := of_decide_eq_true (by first | (with_reducible assumption) | assumption); obtain ⟨ad345, e345, hx345_0⟩ := Kd.at_int (Kd.R_reads' HO_36.out).2.2 x39_5 p345 q345; obtain rfl : ad338 = ad345 := (by injection e345); replace p345 := eq_true p345; replace q345 := eq_true q345; have p346 : 0 ≤ ((ji112) : Int) := of_decide_eq_true (by first | (with_reducible assumption) | assumption); have q346 : (ji112) < (t330.length : Int) := of_decide_eq_true (by first | (with_reducible assumption) | assumption); obtain ⟨ad346, e346, hx346_0⟩ := Kd.at_int (Kd.R_reads' HO_36.out).2.2 (ji112) p346 q346; obtain rfl : ad338 = ad346 := (by injection e346); replace p346 := eq_true p346; replace q346 := eq_true q346) | ((with_reducible refine gate_builtin (b := .append) (xs := #[.tmp 339, .tmp 341]) rfl ?_); (try (refine gate_guard (by rfl) ?_; dsimp only)); at_builtin; refine Kd.R_append (Kd.int .u16) (w0 := w) w.heap.size rfl (.tmp 339) (.tmp 341) 38 28 (.int .u16 0) 2 rfl Tryd.underlying38 info28 rfl (by decide) (by omega) u38 x38_5 t339 [.int .u16 t339] (fun k_ => some k_ ≠ (v314 : Value).ownBlock) (fun _ => False) rfl rfl ?aP (fun _ hk => hk.elim) ?aF ?aO ?aB ?aS ?aL ?_; (case aP => exact rfl); (case aB => exact (by repeat (first | (with_reducible first | exact HB.out | apply below_alloc | apply pw_below_drewN | apply below_drew1) | exact HB.out))); (case aF => exact (fun k_ hk => Kd.fresh' (Kd.R_lt (by (with_reducible repeat (first | apply Kd.R_alloc | apply Kd.R_drewN | apply Kd.R_drew)); exact HO_23.out)) k_ hk)); (case aO => exact (by (with_reducible repeat (first | apply Kd.R_alloc | apply Kd.R_drewN | apply Kd.R_drew)); exact HO_38.out)); (case aS => exact (below_size (by repeat (first | (with_reducible first | exact HB.out | apply below_alloc | apply pw_below_drewN | apply below_drew1) | exact HB.out)))); (case aL => have := LMc118.out; omega); intro v348 w121 ho hb hg hat; rw [← Ny347.out] at ho; have n0_ := Aside0.mk (Kd.R_after (ok := (fun _ => True)) (by (with_reducible repeat (first | apply Kd.R_alloc | apply Kd.R_drewN | apply Kd.R_drew)); exact Kd.R_mono HO_23.out (fun _ hk => ⟨trivial, hk⟩)) hg hat); have n1_ := Aside0.mk (Kd.R_over' (by (with_reducible repeat (first | apply Kd.R_alloc | apply Kd.R_drewN | apply Kd.R_drew)); exact HO_36.out) (Kd.R_typed (by (with_reducible repeat (first | apply Kd.R_alloc | apply Kd.R_drewN | apply Kd.R_drew)); exact HO_38.out)) (by decide) hg); have n2_ := Aside0.mk (hb); have n3_ := Aside0.mk (ho); clear HO_23; clear HO_36; clear HB; clear HO_38; have HO_23 := n0_; have HO_36 := n1_; have HB := n2_; have HO349 := n3_; clear n0_ n1_ n2_ n3_; clear ho hb hg hat)); try go_wp2_with (first | (go_at_call 10; (with_reducible refine (impl_RowValue.calls k5 t292 (Go.bits .andNot .u32 (rd t330 x39_5) (ji102)) t339 t340 _ (by first | ((repeat (first | exact HTT.out | apply RT.drewN | apply RT.drew)); done) | exact (HTT.out.on (by repeat (first | (with_reducible first | exact HB.out | apply below_alloc | apply pw_below_drewN | apply below_drew1) | exact HB.out)))) A103.out).mono ?_); rintro e w120 ⟨rfl, hb⟩; have n0_ := Aside0.mk (Kd.R_below (by (with_reducible repeat (first | apply Kd.R_alloc | apply Kd.R_drewN | apply Kd.R_drew)); exact HO_23.out) hb); have n1_ := Aside0.mk (Kd.R_below (by (with_reducible repeat (first | apply Kd.R_alloc | apply Kd.R_drewN | apply Kd.R_drew)); exact HO_36.out) hb); have n2_ := Aside0.mk (Kd.R_below (by (with_reducible repeat (first | apply Kd.R_alloc | apply Kd.R_drewN | apply Kd.R_drew)); exact HO_38.out) hb); have n3_ := Aside0.mk (below_step (by repeat (first | (with_reducible first | exact HB.out | apply below_alloc | apply pw_below_drewN | apply below_drew1) | exact HB.out)) hb); clear HO_23; clear HO_36; clear HO_38; clear HB; have HO_23 := n0_; have HO_36 := n1_; have HO_38 := n2_; have HB := n3_; clear n0_ n1_ n2_ n3_; (try clear hb); (try clear hb2); (try clear hk); (try clear hi); have p341 : 0 ≤ (x39_5 : Int) := of_decide_eq_true (by first | (with_reducible assumption) | assumption); have q341 : x39_5 < (t330.length : Int) := of_decide_eq_true (by first | (with_reducible assumption) | assumption); obtain ⟨ad341, e341, hx341_0⟩ := Kd.at_int (Kd.R_reads' HO_36.out).2.2 x39_5 p341 q341; obtain rfl : ad338 = ad341 := (by injection e341); replace p341 := eq_true p341; replace q341 := eq_true q341) | (go_at_call 20; (with_reducible refine (impl_MayTurn.calls k5 t292 (rd t330 x39_5) true t343 _ (by first | ((repeat (first | exact HTT.out | apply RT.drewN | apply RT.drew)); done) | exact (HTT.out.on (by repeat (first | (with_reducible first | exact HB.out | apply below_alloc | apply pw_below_drewN | apply below_drew1) | exact HB.out)))) A104.out).mono ?_); rintro e w' ⟨rfl, ⟨nd, rfl⟩⟩; (try first | exact ⟨rfl, _, World.drewN_drewN _ _ _⟩ | exact ⟨rfl, _, Eq.trans (World.drewN_drewN _ _ _) (congrArg (World.drewN _) (Nat.add_assoc _ _ _))⟩); have p344 : 0 ≤ (x39_5 : Int) := of_decide_eq_true (by first | (with_reducible assumption) | assumption); have q344 : x39_5 < (t330.length : Int) := of_decide_eq_true (by first | (with_reducible assumption) | assumption); obtain ⟨ad344, e344, hx344_0⟩ := Kd.at_int (Kd.R_reads' HO_36.out).2.2 x39_5 p344 q344; obtain rfl : ad338 = ad344 := (by injection e344); replace p344 := eq_true p344; replace q344 := eq_true q344; have p345 : 0 ≤ (x39_5 : Int) := of_decide_eq_true (by first | (with_reducible assumption) | assumption); have q345 : x39_5 < (t330.length : Int) := of_decide_eq_true (by first | (with_reducible assumption) | assumption); obtain ⟨ad345, e345, hx345_0⟩ := Kd.at_int (Kd.R_reads' HO_36.out).2.2 x39_5 p345 q345; obtain rfl : ad338 = ad345 := (by injection e345); replace p345 := eq_true p345; replace q345 := eq_true q345; have p346 : 0 ≤ ((ji112) : Int) := of_decide_eq_true (by first | (with_reducible assumption) | assumption); have q346 : (ji112) < (t330.length : Int) := of_decide_eq_true (by first | (with_reducible assumption) | assumption); obtain ⟨ad346, e346, hx346_0⟩ := Kd.at_int (Kd.R_reads' HO_36.out).2.2 (ji112) p346 q346; obtain rfl : ad338 = ad346 := (by injection e346); replace p346 := eq_true p346; replace q346 := eq_true q346) | ((with_reducible refine gate_builtin (b := .append) (xs := #[.tmp 339, .tmp 341]) rfl ?_); (try (refine gate_guard (by rfl) ?_; dsimp only)); at_builtin; refine Kd.R_append (Kd.int .u16) (w0 := w) w.heap.size rfl (.tmp 339) (.tmp 341) 38 28 (.int .u16 0) 2 rfl Tryd.underlying38 info28 rfl (by decide) (by omega) u38 x38_5 t339 [.int .u16 t339] (fun k_ => some k_ ≠ (v314 : Value).ownBlock) (fun _ => False) rfl rfl ?aP (fun _ hk => hk.elim) ?aF ?aO ?aB ?aS ?aL ?_; (case aP => exact rfl); (case aB => exact (by repeat (first | (with_reducible first | exact HB.out | apply below_alloc | apply pw_below_drewN | apply below_drew1) | exact HB.out))); (case aF => exact (fun k_ hk => Kd.fresh' (Kd.R_lt (by (with_reducible repeat (first | apply Kd.R_alloc | apply Kd.R_drewN | apply Kd.R_drew)); exact HO_23.out)) k_ hk)); (case aO => exact (by (with_reducible repeat (first | apply Kd.R_alloc | apply Kd.R_drewN | apply Kd.R_drew)); exact HO_38.out)); (case aS => exact (below_size (by repeat (first | (with_reducible first | exact HB.out | apply below_alloc | apply pw_below_drewN | apply below_drew1) | exact HB.out)))); (case aL => have := LMc118.out; omega); intro v348 w121 ho hb hg hat; rw [← Ny347.out] at ho; have n0_ := Aside0.mk (Kd.R_after (ok := (fun _ => True)) (by (with_reducible repeat (first | apply Kd.R_alloc | apply Kd.R_drewN | apply Kd.R_drew)); exact Kd.R_mono HO_23.out (fun _ hk => ⟨trivial, hk⟩)) hg hat); have n1_ := Aside0.mk (Kd.R_over' (by (with_reducible repeat (first | apply Kd.R_alloc | apply Kd.R_drewN | apply Kd.R_drew)); exact HO_36.out) (Kd.R_typed (by (with_reducible repeat (first | apply Kd.R_alloc | apply Kd.R_drewN | apply Kd.R_drew)); exact HO_38.out)) (by decide) hg); have n2_ := Aside0.mk (hb); have n3_ := Aside0.mk (ho); clear HO_23; clear HO_36; clear HB; clear HO_38; have HO_23 := n0_; have HO_36 := n1_; have HB := n2_; have HO349 := n3_; clear n0_ n1_ n2_ n3_; clear ho hb hg hat)))
 go_roundg k5
 case measure => have := HJ2.out; have := HJ18.out; have := HJ49.out; have := HJ85.out; have := HK5.out; omega
 case rel => exact ⟨(y347), (wrap64 (x39_5 + 1)), (by first | rfl | (simp; done) | (simp [*]; done)), H', ⟨by have := HJ2.out; have := HJ18.out; have := HJ49.out; have := HJ85.out; have := HK5.out; omega⟩, ⟨by (with_reducible repeat (first | apply Kd.R_alloc | apply Kd.R_drewN | apply Kd.R_drew)); exact Kd.R_mono HO_23.out (fun _ hk => hk.2)⟩, ⟨by (with_reducible repeat (first | apply Kd.R_alloc | apply Kd.R_drewN | apply Kd.R_drew)); exact HO_36.out⟩, ⟨by (with_reducible repeat (first | apply Kd.R_alloc | apply Kd.R_drewN | apply Kd.R_drew)); exact HO349.out⟩, ⟨by repeat (first | (with_reducible first | exact HB.out | apply below_alloc | apply pw_below_drewN | apply below_drew1) | exact HB.out)⟩⟩
theorem laws_FnRows.walk (P : laws_FnRows.Pure) (a0 : Option Addr) (len0 cap0 : Nat) (z0 : List Int) (a1 : Option Addr) (len1 cap1 : Nat) (z1 : List Int) (w : World) (hT : RT w) (w0 : (a0 = none ∧ len0 = 0 ∧ cap0 = 0 ∧ z0 = []) ∨ ∃ x, a0 = some x ∧ len0 ≤ cap0 ∧ cap0 ≤ maxLen ∧ z0.length = cap0 ∧ (∀ i, i < z0.length → w.cell? (x.add i) = some (.int .u8 (z0.getD i 0))) ∧ ∀ n ∈ z0, (Lit.int .u8 n).wf = true) (y0 : len0 * 1 ≤ 140737488351232) (w1 : (a1 = none ∧ len1 = 0 ∧ cap1 = 0 ∧ z1 = []) ∨ ∃ x, a1 = some x ∧ len1 ≤ cap1 ∧ cap1 ≤ maxLen ∧ z1.length = cap1 ∧ (∀ i, i < z1.length → w.cell? (x.add i) = some (.int .u8 (z1.getD i 0))) ∧ ∀ n ∈ z1, (Lit.int .u8 n).wf = true) (y1 : len1 * 1 ≤ 140737488351232) :
    Calls Tryd.prog 3 #[.slice a0 len0 cap0, .slice a1 len1 cap1] w fun e w' => e = .returned (.bool true) ∧ Below w.heap.size w w' := by
 obtain ⟨l0, rfl, hr0, hm0, hw0, hc0⟩ := ReadsInt.ofRowC w0
 obtain ⟨l1, rfl, hr1, hm1, hw1, hc1⟩ := ReadsInt.ofRowC w1
 obtain ⟨k, h⟩ := P l0 l1 hm0 y0 hw0 hm1 y1 hw1
 refine (laws_FnRows.calls k _ _ l0 _ _ l1 true w (Kd.C_of_reads (d := (0 : Int)) (h1 := fun _ => rfl) hr0) hc0 (Kd.C_of_reads (d := (0 : Int)) (h1 := fun _ => rfl) hr1) hc1 rfl hT h).mono ?_
 rintro e w' ⟨rfl, hd⟩
 exact ⟨rfl, hd⟩
end Go.Proofs.YtkgnjfoclhkgkaaDoor.RFnRows
