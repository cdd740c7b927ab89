-- WRITTEN BY A PROGRAM OF THIS SESSION over the walks that the kit prints; contracts of functions that the print does not take are this session's own
import Derived.Test.YtkgnjfoclhkgkaaDoorRFnRowsPlayedx0
import Derived.Test.YtkgnjfoclhkgkaaDoorRFnRowsPlayedx1
import Derived.Test.YtkgnjfoclhkgkaaDoorRFnRowsPlayedx2
import Derived.Test.YtkgnjfoclhkgkaaDoorRFnRowsPlayedx5
namespace Go.Proofs.YtkgnjfoclhkgkaaDoor.RFnRowsPlayed
open Go.RowKit Go.Proofs.YtkgnjfoclhkgkaaDoor.Given Go.Proofs.YtkgnjfoclhkgkaaDoor.RRO Go.Proofs.YtkgnjfoclhkgkaaDoor.RMT Go.Proofs.YtkgnjfoclhkgkaaDoor.RAT Go.Proofs.YtkgnjfoclhkgkaaDoor.RLN Go.Proofs.YtkgnjfoclhkgkaaDoor.ROC Go.Proofs.YtkgnjfoclhkgkaaDoorW.PrintWords Go.Proofs.YtkgnjfoclhkgkaaDoorW.PrintLast Go.Proofs.YtkgnjfoclhkgkaaDoorW.PrintMore
attribute [local go_sem] max2_int min2_int max_two min_two max_three min_three max_four min_four   -- for this text's walks alone
set_option linter.unusedVariables false
set_option linter.unusedSimpArgs false

/-! ### laws_FnRowsPlayed: function 6 -/
mutual
def laws_FnRowsPlayed.j0 : Nat → List Int → List Int → Bool → Option (Bool)
  | 0, _, _, _ => none
  | k + 1, x0, x1, x25 => if x25 = true then (some true) else ((spec_P6Pick.f x0 6).bind fun t282 => ((spec_P6Row.f x1).bind fun t283 => ((impl_PlayRow.f k t282 (Go.bits .and .u32 t283 63)).bind fun bt284 => ((spec_PlayRow.f k t282 (Go.bits .and .u32 t283 63)).bind fun bt288 => ((impl_RowValue.f k t282 (Go.bits .and .u32 t283 63)).bind fun bt292 => (if bt284.2 = bt288.2 then ((spec_SameTurns.f k bt284.1 bt288.1).bind fun t294 => (if t294 = true then (laws_FnRowsPlayed.j1 k t282 (Go.bits .and .u32 t283 63) bt284.2 bt288.1 bt292.1 (bt292.2 != 0)) else (laws_FnRowsPlayed.j1 k t282 (Go.bits .and .u32 t283 63) bt284.2 bt288.1 bt292.1 true))) else (laws_FnRowsPlayed.j1 k t282 (Go.bits .and .u32 t283 63) bt284.2 bt288.1 bt292.1 true)))))))
def laws_FnRowsPlayed.j1 : Nat → Int → Int → Int → List Int → Int → Bool → Option (Bool)
  | 0, _, _, _, _, _, _ => none
  | k + 1, x5, x6, x8, x9, x11, x61 => if x61 = true then (some false) else (if x8 = 0 then (laws_FnRowsPlayed.l0 k x5 x9 x11 x6 0) else (some (x8 == 7)))
def laws_FnRowsPlayed.l0 : Nat → Int → List Int → Int → Int → Int → Option (Bool)
  | 0, _, _, _, _, _ => none
  | k + 1, x5, x9, x11, x13, x14 => if x14 < (x9.length : Int) then (if 0 ≤ x14 then ((impl_TurnRow.f k x5 x13 (rd x9 x14)).bind fun bt296 => (if bt296.2 = 0 then (laws_FnRowsPlayed.l0 k x5 x9 x11 bt296.1 (wrap64 (x14 + 1))) else (some false))) else (none)) else (laws_FnRowsPlayed.l1 k x5 x9 x11 x13 0)
def laws_FnRowsPlayed.l1 : Nat → Int → List Int → Int → Int → Int → Option (Bool)
  | 0, _, _, _, _, _ => none
  | k + 1, x5, x9, x11, x13, x17 => if x17 < 8 then ((impl_TurnsAt.f x5 x17).bind fun bt298 => (if bt298.2 = 0 then (if 0 ≤ (IntKind.u64.wrap (x17)) then (if (Go.bits .and .u32 (shr .u32 x13 (IntKind.u64.wrap (x17))) 1) = 1 then (if (bt298.1.length : Int) > 0 then (some false) else (laws_FnRowsPlayed.l1 k x5 x9 x11 x13 (wrap64 (x17 + 1)))) else (laws_FnRowsPlayed.l1 k x5 x9 x11 x13 (wrap64 (x17 + 1)))) else (none)) else (some false))) else (some ((((x9.length : Int) % 2) == 1) == (x11 != 0)))
end
def laws_FnRowsPlayed.f (k : Nat) (l0 : List Int) (l1 : List Int) : Option (Bool) := (laws_f6big.f l0).bind fun t280 => (if t280 = true then (laws_FnRowsPlayed.j0 k l0 l1 true) else ((laws_f6big.f l1).bind fun t281 => (laws_FnRowsPlayed.j0 k l0 l1 t281)))
set_option maxHeartbeats 8000000 in
set_option maxRecDepth 100000 in
theorem laws_FnRowsPlayed.calls (k : Nat) (A0 : Option Addr) (c0 : Nat) (l0 : List Int) (A1 : Option Addr) (c1 : Nat) (l1 : List Int) (r : Bool) (w : World) (hr0 : Kd.C (Kd.int .u8) w A0 l0.length l0) (hc0 : l0.length ≤ c0) (hr1 : Kd.C (Kd.int .u8) w A1 l1.length l1) (hc1 : l1.length ≤ c1) (hT : RT w) (h : laws_FnRowsPlayed.f k l0 l1 = some r) :
    Calls Tryd.prog 6 #[.slice A0 l0.length c0, .slice A1 l1.length c1] w fun e w' => e = .returned (.bool r) ∧ Below w.heap.size w w' := by
 have HTT := Lib.hid hT
 clear hT
 have HR0 := Aside0.mk hr0
 have HC0 := Aside0.mk hc0
 clear hr0 hc0
 have HR1 := Aside0.mk hr1
 have HC1 := Aside0.mk hc1
 clear hr1 hc1
 have HB := Aside0.mk (Below.refl w.heap.size w)
 have H : ((laws_f6big.f l0).bind fun t280 => (if t280 = true then (laws_FnRowsPlayed.j0 k l0 l1 true) else ((laws_f6big.f l1).bind fun t281 => (laws_FnRowsPlayed.j0 k l0 l1 t281)))) = some r := h
 clear h
 have HC3 := Aside0.mk H
 clear H
 go_enter Tryd.func6, Tryd.ntmps6
 go_upto_region 1 with (fail)
 go_cut [25] (fun v25 wc => ∃ (kq : Nat) (x25_2 : Bool), v25 = .bool x25_2 ∧ Aside0 (laws_FnRowsPlayed.j0 kq l0 l1 x25_2 = some r) ∧ Aside0 (kq ≤ k) ∧ Aside0 (Below w.heap.size w wc))
 case first =>
  have H := HC3.out
  clear HC3
  replace H := Option.bind_eq_some_iff.mp H
  obtain ⟨t280, A40, H⟩ := H
  replace H : (if t280 = true then (laws_FnRowsPlayed.j0 k l0 l1 true) else ((laws_f6big.f l1).bind fun t281 => (laws_FnRowsPlayed.j0 k l0 l1 t281))) = some r := H
  have A4 := Aside0.mk A40
  clear A40
  by_cases c5 : t280 = true
  · subst c5
    have H1 : (laws_FnRowsPlayed.j0 k l0 l1 true) = some r := by rw [if_pos rfl] at H; exact H
    clear H
    have H := H1
    clear H1
    have H' := Aside0.mk H
    clear H
    go_wp2_with (first | ((with_reducible refine gate_callee (f := 7) rfl ?_); refine goesL_ (some 21) rfl rfl Tryd.func7 (by kernel_rfl) rfl #[.slice A0 l0.length c0] rfl (by (try simp only [List.map_toArray, List.map_cons, List.map_nil]); first | done | rfl | (simp only [List.length_drop, List.length_take]; rfl)) ?_; (with_reducible refine (laws_f6big.calls _ _ l0 true _ ?side1 ?side2 A4.out).mono ?_); (case side1 => repeat (first | exact (Kd.C_below HR0.out HB.out) | (with_reducible refine Kd.C_alloc ?_ _) | (with_reducible refine Kd.C_drewN ?_ _) | (with_reducible refine Kd.C_drew ?_))); (case side2 => exact HC0.out); rintro e w' ⟨rfl, ⟨nd, rfl⟩⟩; refine ⟨_, rfl, ?_⟩))
    go_meet
    case rel => exact ⟨_, (true), (by first | rfl | (simp; done) | (simp [*]; done)), H', ⟨by first | omega | exact Nat.le_refl _⟩, ⟨by repeat (first | (with_reducible first | exact HB.out | apply below_alloc | apply pw_below_drewN | apply below_drew1) | exact HB.out)⟩⟩
  replace c5 := Bool.eq_false_iff.mpr c5
  subst c5
  have H1 : ((laws_f6big.f l1).bind fun t281 => (laws_FnRowsPlayed.j0 k l0 l1 t281)) = some r := by rw [if_neg (show ¬ (false = true) by decide)] at H; exact H
  clear H
  have H := H1
  clear H1
  replace H := Option.bind_eq_some_iff.mp H
  obtain ⟨t281, A60, H⟩ := H
  replace H : (laws_FnRowsPlayed.j0 k l0 l1 t281) = some r := H
  have A6 := Aside0.mk A60
  clear A60
  have H' := Aside0.mk H
  clear H
  go_wp2_with (first | ((with_reducible refine gate_callee (f := 7) rfl ?_); refine goesL_ (some 21) rfl rfl Tryd.func7 (by kernel_rfl) rfl #[.slice A0 l0.length c0] rfl (by (try simp only [List.map_toArray, List.map_cons, List.map_nil]); first | done | rfl | (simp only [List.length_drop, List.length_take]; rfl)) ?_; (with_reducible refine (laws_f6big.calls _ _ l0 false _ ?side1 ?side2 A4.out).mono ?_); (case side1 => repeat (first | exact (Kd.C_below HR0.out HB.out) | (with_reducible refine Kd.C_alloc ?_ _) | (with_reducible refine Kd.C_drewN ?_ _) | (with_reducible refine Kd.C_drew ?_))); (case side2 => exact HC0.out); rintro e w' ⟨rfl, ⟨nd, rfl⟩⟩; refine ⟨_, rfl, ?_⟩) | (go_at_call 7; (with_reducible refine (laws_f6big.calls _ _ l1 t281 _ ?side1 ?side2 A6.out).mono ?_); (case side1 => repeat (first | exact (Kd.C_below HR1.out (by repeat (first | (with_reducible first | exact HB.out | apply below_alloc | apply pw_below_drewN | apply below_drew1) | exact HB.out))) | (with_reducible refine Kd.C_alloc ?_ _) | (with_reducible refine Kd.C_drewN ?_ _) | (with_reducible refine Kd.C_drew ?_))); (case side2 => exact HC1.out); rintro e w' ⟨rfl, ⟨nd, rfl⟩⟩))
  go_meet
  case rel => exact ⟨_, (t281), (by first | rfl | (simp; done) | (simp [*]; done)), H', ⟨by first | omega | exact Nat.le_refl _⟩, ⟨by repeat (first | (with_reducible first | exact HB.out | apply below_alloc | apply pw_below_drewN | apply below_drew1) | exact HB.out)⟩⟩
 case rest =>
 clear HC3
 try clear c1
 try clear p2
 try clear c5
 try clear c6
 obtain ⟨kq, x25_2, rfl, HA, HJ2, HB⟩ := hcut
 cases kq with
 | zero => exact absurd HA.out (by simp [laws_FnRowsPlayed.j0])
 | succ kj2 =>
 have H := HA.out
 clear HA
 simp only [laws_FnRowsPlayed.j0] at H
 by_cases c7 : x25_2 = true
 · subst c7
   have H1 : (some true) = some r := by rw [if_pos rfl] at H; exact H
   clear H
   have H := H1
   clear H1
   obtain rfl := Option.some.inj H
   go_wp2
   go_ret
   exact ⟨by first | rfl | (simp [errW_none, errW_some] <;> rfl) | (simp [*, errW_none, errW_some] <;> rfl), by repeat (first | (with_reducible first | exact HB.out | apply below_alloc | apply pw_below_drewN | apply below_drew1) | exact HB.out)⟩
 replace c7 := Bool.eq_false_iff.mpr c7
 subst c7
 have H1 : ((spec_P6Pick.f l0 6).bind fun t282 => ((spec_P6Row.f l1).bind fun t283 => ((impl_PlayRow.f kj2 t282 (Go.bits .and .u32 t283 63)).bind fun bt284 => ((spec_PlayRow.f kj2 t282 (Go.bits .and .u32 t283 63)).bind fun bt288 => ((impl_RowValue.f kj2 t282 (Go.bits .and .u32 t283 63)).bind fun bt292 => (if bt284.2 = bt288.2 then ((spec_SameTurns.f kj2 bt284.1 bt288.1).bind fun t294 => (if t294 = true then (laws_FnRowsPlayed.j1 kj2 t282 (Go.bits .and .u32 t283 63) bt284.2 bt288.1 bt292.1 (bt292.2 != 0)) else (laws_FnRowsPlayed.j1 kj2 t282 (Go.bits .and .u32 t283 63) bt284.2 bt288.1 bt292.1 true))) else (laws_FnRowsPlayed.j1 kj2 t282 (Go.bits .and .u32 t283 63) bt284.2 bt288.1 bt292.1 true))))))) = some r := by rw [if_neg (show ¬ (false = true) by decide)] at H; exact H
 clear H
 have H := H1
 clear H1
 replace H := Option.bind_eq_some_iff.mp H
 obtain ⟨t282, A80, H⟩ := H
 replace H : ((spec_P6Row.f l1).bind fun t283 => ((impl_PlayRow.f kj2 t282 (Go.bits .and .u32 t283 63)).bind fun bt284 => ((spec_PlayRow.f kj2 t282 (Go.bits .and .u32 t283 63)).bind fun bt288 => ((impl_RowValue.f kj2 t282 (Go.bits .and .u32 t283 63)).bind fun bt292 => (if bt284.2 = bt288.2 then ((spec_SameTurns.f kj2 bt284.1 bt288.1).bind fun t294 => (if t294 = true then (laws_FnRowsPlayed.j1 kj2 t282 (Go.bits .and .u32 t283 63) bt284.2 bt288.1 bt292.1 (bt292.2 != 0)) else (laws_FnRowsPlayed.j1 kj2 t282 (Go.bits .and .u32 t283 63) bt284.2 bt288.1 bt292.1 true))) else (laws_FnRowsPlayed.j1 kj2 t282 (Go.bits .and .u32 t283 63) bt284.2 bt288.1 bt292.1 true)))))) = some r := H
 have A8 := Aside0.mk A80
 clear A80
 replace H := Option.bind_eq_some_iff.mp H
 obtain ⟨t283, A90, H⟩ := H
 replace H : ((impl_PlayRow.f kj2 t282 (Go.bits .and .u32 t283 63)).bind fun bt284 => ((spec_PlayRow.f kj2 t282 (Go.bits .and .u32 t283 63)).bind fun bt288 => ((impl_RowValue.f kj2 t282 (Go.bits .and .u32 t283 63)).bind fun bt292 => (if bt284.2 = bt288.2 then ((spec_SameTurns.f kj2 bt284.1 bt288.1).bind fun t294 => (if t294 = true then (laws_FnRowsPlayed.j1 kj2 t282 (Go.bits .and .u32 t283 63) bt284.2 bt288.1 bt292.1 (bt292.2 != 0)) else (laws_FnRowsPlayed.j1 kj2 t282 (Go.bits .and .u32 t283 63) bt284.2 bt288.1 bt292.1 true))) else (laws_FnRowsPlayed.j1 kj2 t282 (Go.bits .and .u32 t283 63) bt284.2 bt288.1 bt292.1 true))))) = some r := H
 have A9 := Aside0.mk A90
 clear A90
 replace H := Option.bind_eq_some_iff.mp H
 obtain ⟨⟨t284, t285⟩, A100, H⟩ := H
 replace H : ((spec_PlayRow.f kj2 t282 (Go.bits .and .u32 t283 63)).bind fun bt288 => ((impl_RowValue.f kj2 t282 (Go.bits .and .u32 t283 63)).bind fun bt292 => (if t285 = bt288.2 then ((spec_SameTurns.f kj2 t284 bt288.1).bind fun t294 => (if t294 = true then (laws_FnRowsPlayed.j1 kj2 t282 (Go.bits .and .u32 t283 63) t285 bt288.1 bt292.1 (bt292.2 != 0)) else (laws_FnRowsPlayed.j1 kj2 t282 (Go.bits .and .u32 t283 63) t285 bt288.1 bt292.1 true))) else (laws_FnRowsPlayed.j1 kj2 t282 (Go.bits .and .u32 t283 63) t285 bt288.1 bt292.1 true)))) = some r := H
 have A10 := Aside0.mk A100
 clear A100
 replace H := Option.bind_eq_some_iff.mp H
 obtain ⟨⟨t288, t289⟩, A110, H⟩ := H
 replace H : ((impl_RowValue.f kj2 t282 (Go.bits .and .u32 t283 63)).bind fun bt292 => (if t285 = t289 then ((spec_SameTurns.f kj2 t284 t288).bind fun t294 => (if t294 = true then (laws_FnRowsPlayed.j1 kj2 t282 (Go.bits .and .u32 t283 63) t285 t288 bt292.1 (bt292.2 != 0)) else (laws_FnRowsPlayed.j1 kj2 t282 (Go.bits .and .u32 t283 63) t285 t288 bt292.1 true))) else (laws_FnRowsPlayed.j1 kj2 t282 (Go.bits .and .u32 t283 63) t285 t288 bt292.1 true))) = some r := H
 have A11 := Aside0.mk A110
 clear A110
 replace H := Option.bind_eq_some_iff.mp H
 obtain ⟨⟨t292, t293⟩, A120, H⟩ := H
 replace H : (if t285 = t289 then ((spec_SameTurns.f kj2 t284 t288).bind fun t294 => (if t294 = true then (laws_FnRowsPlayed.j1 kj2 t282 (Go.bits .and .u32 t283 63) t285 t288 t292 (t293 != 0)) else (laws_FnRowsPlayed.j1 kj2 t282 (Go.bits .and .u32 t283 63) t285 t288 t292 true))) else (laws_FnRowsPlayed.j1 kj2 t282 (Go.bits .and .u32 t283 63) t285 t288 t292 true)) = some r := H
 have A12 := Aside0.mk A120
 clear A120
 have HC13 := Aside0.mk H
 clear H
 go_upto_region 8 with (first | ((with_reducible refine gate_callee (f := 8) rfl ?_); refine goesL_ (some 27) rfl rfl Tryd.func8 (by kernel_rfl) rfl #[.slice A0 l0.length c0, .int .i64 6] rfl (by (try simp only [List.map_toArray, List.map_cons, List.map_nil]); first | done | rfl | (simp only [List.length_drop, List.length_take]; rfl)) ?_; (with_reducible refine (spec_P6Pick.calls _ _ l0 6 t282 _ ?side1 ?side2 A8.out).mono ?_); (case side1 => repeat (first | exact (Kd.C_below HR0.out HB.out) | (with_reducible refine Kd.C_alloc ?_ _) | (with_reducible refine Kd.C_drewN ?_ _) | (with_reducible refine Kd.C_drew ?_))); (case side2 => exact HC0.out); rintro e w14 ⟨rfl, hb⟩; refine ⟨_, rfl, ?_⟩; have n0_ := Aside0.mk (below_step (by repeat (first | (with_reducible first | exact HB.out | apply below_alloc | apply pw_below_drewN | apply below_drew1) | exact HB.out)) hb); clear HB; have HB := n0_; clear n0_; (try clear hb); (try clear hb2); (try clear hk); (try clear hi)) | ((with_reducible refine gate_callee (f := 9) rfl ?_); refine goesL_ (some 29) rfl rfl Tryd.func9 (by kernel_rfl) rfl #[.slice A1 l1.length c1] rfl (by (try simp only [List.map_toArray, List.map_cons, List.map_nil]); first | done | rfl | (simp only [List.length_drop, List.length_take]; rfl)) ?_; (with_reducible refine (spec_P6Row.calls _ _ l1 t283 _ ?side1 ?side2 A9.out).mono ?_); (case side1 => repeat (first | exact (Kd.C_below HR1.out HB.out) | (with_reducible refine Kd.C_alloc ?_ _) | (with_reducible refine Kd.C_drewN ?_ _) | (with_reducible refine Kd.C_drew ?_))); (case side2 => exact HC1.out); rintro e w15 ⟨rfl, hb⟩; refine ⟨_, rfl, ?_⟩; have n0_ := Aside0.mk (below_step (by repeat (first | (with_reducible first | exact HB.out | apply below_alloc | apply pw_below_drewN | apply below_drew1) | exact HB.out)) hb); clear HB; have HB := n0_; clear n0_; (try clear hb); (try clear hb2); (try clear hk); (try clear hi)) | ((with_reducible refine gate_callee (f := 28) rfl ?_); refine goesL_ (some 34) rfl rfl Tryd.func28 (by kernel_rfl) rfl #[.int .i64 t282, .int .u32 (Go.bits .and .u32 t283 63)] rfl (by (try simp only [List.map_toArray, List.map_cons, List.map_nil]); first | done | rfl | (simp only [List.length_drop, List.length_take]; rfl)) ?_; (with_reducible refine (impl_PlayRow.calls kj2 t282 (Go.bits .and .u32 t283 63) t284 t285 _ (by first | ((repeat (first | exact HTT.out | apply RT.drewN | apply RT.drew)); done) | exact (HTT.out.on (by repeat (first | (with_reducible first | exact HB.out | apply below_alloc | apply pw_below_drewN | apply below_drew1) | exact HB.out)))) A10.out).mono ?_); rintro e w16 ⟨v286, rfl, ho0, hb⟩; refine ⟨_, rfl, ?_⟩; have n0_ := Aside0.mk (Kd.R_lower ho0 (below_size (by repeat (first | (with_reducible first | exact HB.out | apply below_alloc | apply pw_below_drewN | apply below_drew1) | exact HB.out)))); have n1_ := Aside0.mk (below_step (by repeat (first | (with_reducible first | exact HB.out | apply below_alloc | apply pw_below_drewN | apply below_drew1) | exact HB.out)) hb); clear HB; have HO287 := n0_; have HB := n1_; clear n0_ n1_; (try clear hb); (try clear hb2); (try clear hk); (try clear hi); (try clear ho0)) | ((with_reducible refine gate_callee (f := 27) rfl ?_); refine goesL_ (some 40) rfl rfl Tryd.func27 (by kernel_rfl) rfl #[.int .i64 t282, .int .u32 (Go.bits .and .u32 t283 63)] rfl (by (try simp only [List.map_toArray, List.map_cons, List.map_nil]); first | done | rfl | (simp only [List.length_drop, List.length_take]; rfl)) ?_; (with_reducible refine (spec_PlayRow.calls kj2 t282 (Go.bits .and .u32 t283 63) t288 t289 _ A11.out).mono ?_); rintro e w17 ⟨v290, rfl, ho0, hb⟩; refine ⟨_, rfl, ?_⟩; have n0_ := Aside0.mk (Kd.R_elder' (by (with_reducible repeat (first | apply Kd.R_alloc | apply Kd.R_drewN | apply Kd.R_drew)); exact HO287.out) (Kd.R_base ho0) hb); have n1_ := Aside0.mk (Kd.R_lower (Kd.R_new' ho0 (Kd.R_lt (by (with_reducible repeat (first | apply Kd.R_alloc | apply Kd.R_drewN | apply Kd.R_drew)); exact HO287.out))) (below_size (by repeat (first | (with_reducible first | exact HB.out | apply below_alloc | apply pw_below_drewN | apply below_drew1) | exact HB.out)))); have n2_ := Aside0.mk (below_step (by repeat (first | (with_reducible first | exact HB.out | apply below_alloc | apply pw_below_drewN | apply below_drew1) | exact HB.out)) hb); clear HO287; clear HB; have HO287 := n0_; have HO291 := n1_; have HB := n2_; clear n0_ n1_ n2_; (try clear hb); (try clear hb2); (try clear hk); (try clear hi); (try clear ho0)) | ((with_reducible refine gate_callee (f := 10) rfl ?_); refine goesL_ (some 46) rfl rfl Tryd.func10 (by kernel_rfl) rfl #[.int .i64 t282, .int .u32 (Go.bits .and .u32 t283 63)] rfl (by (try simp only [List.map_toArray, List.map_cons, List.map_nil]); first | done | rfl | (simp only [List.length_drop, List.length_take]; rfl)) ?_; (with_reducible refine (impl_RowValue.calls kj2 t282 (Go.bits .and .u32 t283 63) t292 t293 _ (by first | ((repeat (first | exact HTT.out | apply RT.drewN | apply RT.drew)); done) | exact (HTT.out.on (by repeat (first | (with_reducible first | exact HB.out | apply below_alloc | apply pw_below_drewN | apply below_drew1) | exact HB.out)))) A12.out).mono ?_); rintro e w18 ⟨rfl, hb⟩; refine ⟨_, rfl, ?_⟩; have n0_ := Aside0.mk (Kd.R_below (by (with_reducible repeat (first | apply Kd.R_alloc | apply Kd.R_drewN | apply Kd.R_drew)); exact HO287.out) hb); have n1_ := Aside0.mk (Kd.R_below (by (with_reducible repeat (first | apply Kd.R_alloc | apply Kd.R_drewN | apply Kd.R_drew)); exact HO291.out) hb); have n2_ := Aside0.mk (below_step (by repeat (first | (with_reducible first | exact HB.out | apply below_alloc | apply pw_below_drewN | apply below_drew1) | exact HB.out)) hb); clear HO287; clear HO291; clear HB; have HO287 := n0_; have HO291 := n1_; have HB := n2_; clear n0_ n1_ n2_; (try clear hb); (try clear hb2); (try clear hk); (try clear hi)))
 (try simp only [Act.put, List.setIfInBounds_toArray, List.set_cons_zero, List.set_cons_succ])
 go_cut [61] (fun v61 wc => ∃ (kq : Nat) (x61_12 : Bool), v61 = .bool x61_12 ∧ Aside0 (laws_FnRowsPlayed.j1 kq t282 (Go.bits .and .u32 t283 63) t285 t288 t292 x61_12 = some r) ∧ Aside0 (kq ≤ kj2) ∧ Aside0 (Kd.R (Kd.int .u32) 25 wc w.heap.size (fun _ => True) v290 t288) ∧ Aside0 (Below w.heap.size w wc))
 case first =>
  have H := HC13.out
  clear HC13
  by_cases c19 : t285 = t289
  rotate_left
  · rw [if_neg c19] at H
    have c19b0 : (t285 == t289) = false := beq_eq_false_iff_ne.mpr c19
    have c19b1 : (t285 != t289) = true := bne_iff_ne.mpr c19
    (first | rw [c19b0] | (simp only [i64_w, i32_w]; rw [c19b0]) | skip)
    have H' := Aside0.mk H
    clear H
    go_wp2
    go_meet
    case rel => exact ⟨_, (true), (by first | rfl | (simp; done) | (simp [*]; done)), H', ⟨by have := HJ2.out; first | omega | exact Nat.le_refl _⟩, ⟨by (with_reducible repeat (first | apply Kd.R_alloc | apply Kd.R_drewN | apply Kd.R_drew)); exact Kd.R_mono HO291.out (fun _ hk => trivial)⟩, ⟨by repeat (first | (with_reducible first | exact HB.out | apply below_alloc | apply pw_below_drewN | apply below_drew1) | exact HB.out)⟩⟩
  rw [if_pos c19] at H
  have c19b0 : (t285 == t289) = true := beq_iff_eq.mpr c19
  have c19b1 : (t285 != t289) = false := bne_eq_false_iff_eq.mpr c19
  clear c19
  (first | rw [c19b0] | (simp only [i64_w, i32_w]; rw [c19b0]) | skip)
  replace H := Option.bind_eq_some_iff.mp H
  obtain ⟨t294, A200, H⟩ := H
  replace H : (if t294 = true then (laws_FnRowsPlayed.j1 kj2 t282 (Go.bits .and .u32 t283 63) t285 t288 t292 (t293 != 0)) else (laws_FnRowsPlayed.j1 kj2 t282 (Go.bits .and .u32 t283 63) t285 t288 t292 true)) = some r := H
  have A20 := Aside0.mk A200
  clear A200
  by_cases c21 : t294 = true
  · subst c21
    have H1 : (laws_FnRowsPlayed.j1 kj2 t282 (Go.bits .and .u32 t283 63) t285 t288 t292 (t293 != 0)) = some r := by rw [if_pos rfl] at H; exact H
    clear H
    have H := H1
    clear H1
    have H' := Aside0.mk H
    clear H
    obtain ⟨Ao22, co22, eo22⟩ := Kd.R_slice HO287.out
    subst eo22
    obtain ⟨Ao23, co23, eo23⟩ := Kd.R_slice HO291.out
    subst eo23
    go_wp2_with (first | (go_at_call 24; (with_reducible refine (spec_SameTurns.calls kj2 _ _ t284 _ _ t288 true _ ?side1 ?side2 ?side3 ?side4 A20.out).mono ?_); (case side1 => repeat (first | exact (Kd.R_reads' HO287.out).2.2 | (with_reducible refine Kd.C_alloc ?_ _) | (with_reducible refine Kd.C_drewN ?_ _) | (with_reducible refine Kd.C_drew ?_))); (case side2 => exact (Kd.R_reads' HO287.out).2.1); (case side3 => repeat (first | exact (Kd.R_reads' HO291.out).2.2 | (with_reducible refine Kd.C_alloc ?_ _) | (with_reducible refine Kd.C_drewN ?_ _) | (with_reducible refine Kd.C_drew ?_))); (case side4 => exact (Kd.R_reads' HO291.out).2.1); rintro e w' ⟨rfl, ⟨nd, rfl⟩⟩))
    go_meet
    case rel => exact ⟨_, ((t293 != 0)), (by first | rfl | (simp; done) | (simp [*]; done)), H', ⟨by have := HJ2.out; first | omega | exact Nat.le_refl _⟩, ⟨by (with_reducible repeat (first | apply Kd.R_alloc | apply Kd.R_drewN | apply Kd.R_drew)); exact Kd.R_mono HO291.out (fun _ hk => trivial)⟩, ⟨by repeat (first | (with_reducible first | exact HB.out | apply below_alloc | apply pw_below_drewN | apply below_drew1) | exact HB.out)⟩⟩
  replace c21 := Bool.eq_false_iff.mpr c21
  subst c21
  have H1 : (laws_FnRowsPlayed.j1 kj2 t282 (Go.bits .and .u32 t283 63) t285 t288 t292 true) = some r := by rw [if_neg (show ¬ (false = true) by decide)] at H; exact H
  clear H
  have H := H1
  clear H1
  have H' := Aside0.mk H
  clear H
  obtain ⟨Ao24, co24, eo24⟩ := Kd.R_slice HO287.out
  subst eo24
  obtain ⟨Ao25, co25, eo25⟩ := Kd.R_slice HO291.out
  subst eo25
  go_wp2_with (first | (go_at_call 24; (with_reducible refine (spec_SameTurns.calls kj2 _ _ t284 _ _ t288 false _ ?side1 ?side2 ?side3 ?side4 A20.out).mono ?_); (case side1 => repeat (first | exact (Kd.R_reads' HO287.out).2.2 | (with_reducible refine Kd.C_alloc ?_ _) | (with_reducible refine Kd.C_drewN ?_ _) | (with_reducible refine Kd.C_drew ?_))); (case side2 => exact (Kd.R_reads' HO287.out).2.1); (case side3 => repeat (first | exact (Kd.R_reads' HO291.out).2.2 | (with_reducible refine Kd.C_alloc ?_ _) | (with_reducible refine Kd.C_drewN ?_ _) | (with_reducible refine Kd.C_drew ?_))); (case side4 => exact (Kd.R_reads' HO291.out).2.1); rintro e w' ⟨rfl, ⟨nd, rfl⟩⟩))
  go_meet
  case rel => exact ⟨_, (true), (by first | rfl | (simp; done) | (simp [*]; done)), H', ⟨by have := HJ2.out; first | omega | exact Nat.le_refl _⟩, ⟨by (with_reducible repeat (first | apply Kd.R_alloc | apply Kd.R_drewN | apply Kd.R_drew)); exact Kd.R_mono HO291.out (fun _ hk => trivial)⟩, ⟨by repeat (first | (with_reducible first | exact HB.out | apply below_alloc | apply pw_below_drewN | apply below_drew1) | exact HB.out)⟩⟩
 case rest =>
 clear HC13
 try clear c1
 try clear c2
 try clear p2
 try clear c5
 try clear c6
 try clear c7
 try clear c8
 try clear c9
 try clear c10
 try clear c19
 try clear c19b0
 try clear c19b1
 try clear c21
 try clear p2
 obtain ⟨kq, x61_12, rfl, HA, HJ12, HO_9, HB⟩ := hcut
 cases kq with
 | zero => exact absurd HA.out (by simp [laws_FnRowsPlayed.j1])
 | succ kj12 =>
 have H := HA.out
 clear HA
 simp only [laws_FnRowsPlayed.j1] at H
 by_cases c26 : x61_12 = true
 · subst c26
   have H1 : (some false) = some r := by rw [if_pos rfl] at H; exact H
   clear H
   have H := H1
   clear H1
   obtain rfl := Option.some.inj H
   go_wp2
   go_ret
   exact ⟨by first | rfl | (simp [errW_none, errW_some] <;> rfl) | (simp [*, errW_none, errW_some] <;> rfl), by repeat (first | (with_reducible first | exact HB.out | apply below_alloc | apply pw_below_drewN | apply below_drew1) | exact HB.out)⟩
 replace c26 := Bool.eq_false_iff.mpr c26
 subst c26
 have H1 : (if t285 = 0 then (laws_FnRowsPlayed.l0 kj12 t282 t288 t292 (Go.bits .and .u32 t283 63) 0) else (some (t285 == 7))) = some r := by rw [if_neg (show ¬ (false = true) by decide)] at H; exact H
 clear H
 have H := H1
 clear H1
 by_cases c27 : t285 = 0
 rotate_left
 · rw [if_neg c27] at H
   have c27b0 : (t285 == 0) = false := beq_eq_false_iff_ne.mpr c27
   have c27b1 : (t285 != 0) = true := bne_iff_ne.mpr c27
   obtain rfl := Option.some.inj H
   go_wp2
   go_ret
   exact ⟨by first | rfl | (simp [errW_none, errW_some] <;> rfl) | (simp [*, errW_none, errW_some] <;> rfl), by repeat (first | (with_reducible first | exact HB.out | apply below_alloc | apply pw_below_drewN | apply below_drew1) | exact HB.out)⟩
 rw [if_pos c27] at H
 have c27b0 : (t285 == 0) = true := beq_iff_eq.mpr c27
 have c27b1 : (t285 != 0) = false := bne_eq_false_iff_eq.mpr c27
 clear c27
 have H' := Aside0.mk H
 clear H
 go_wp2
 go_loopg [13, 14] kj12 (fun kq v13 v14 w' => ∃ (x13_3 : Int) (x14_3 : Int), v13 = .int .u32 x13_3 ∧ v14 = .int .i64 x14_3 ∧ Aside0 (laws_FnRowsPlayed.l0 kq t282 t288 t292 x13_3 x14_3 = some r) ∧ Aside0 (kq ≤ kj12) ∧ Aside0 (Kd.R (Kd.int .u32) 25 w' w.heap.size (fun _ => True) v290 t288) ∧ Aside0 (Below w.heap.size w w'))
 case atStart => exact ⟨((Go.bits .and .u32 t283 63)), (0), (by first | rfl | (simp; done) | (simp [*]; done)), (by first | rfl | (simp; done) | (simp [*]; done)), H', ⟨Nat.le_refl _⟩, ⟨by (with_reducible repeat (first | apply Kd.R_alloc | apply Kd.R_drewN | apply Kd.R_drew)); exact HO_9.out⟩, ⟨by repeat (first | (with_reducible first | exact HB.out | apply below_alloc | apply pw_below_drewN | apply below_drew1) | exact HB.out)⟩⟩
 case round =>
 clear H'
 try clear c1
 try clear c2
 try clear p2
 try clear c5
 try clear c6
 try clear c7
 try clear c8
 try clear c9
 try clear c10
 try clear c19
 try clear c19b0
 try clear c19b1
 try clear c21
 try clear c26
 try clear c27
 try clear c27b0
 try clear c27b1
 try clear p2
 obtain ⟨x13_3, x14_3, rfl, rfl, HA, HK3, HO_9, HB⟩ := hrel
 cases gk with
 | zero => exact absurd HA.out (by simp [laws_FnRowsPlayed.l0])
 | succ k3 =>
 have H := HA.out
 clear HA
 simp only [laws_FnRowsPlayed.l0] at H
 by_cases c28 : x14_3 < (t288.length : Int)
 · rw [if_pos c28] at H
   have c28b0 : decide (x14_3 < (t288.length : Int)) = true := decide_eq_true c28
   clear c28
   by_cases c29 : 0 ≤ x14_3
   rotate_left
   · rw [if_neg c29] at H
     exact absurd H (by simp)
   rw [if_pos c29] at H
   have c29b0 : decide (0 ≤ x14_3) = true := decide_eq_true c29
   clear c29
   replace H := Option.bind_eq_some_iff.mp H
   obtain ⟨⟨t296, t297⟩, A300, H⟩ := H
   replace H : (if t297 = 0 then (laws_FnRowsPlayed.l0 k3 t282 t288 t292 t296 (wrap64 (x14_3 + 1))) else (some false)) = some r := H
   have A30 := Aside0.mk A300
   clear A300
   by_cases c31 : t297 = 0
   rotate_left
   · rw [if_neg c31] at H
     have c31b0 : (t297 == 0) = false := beq_eq_false_iff_ne.mpr c31
     have c31b1 : (t297 != 0) = true := bne_iff_ne.mpr c31
     obtain rfl := Option.some.inj H
     obtain ⟨Ao33, co33, eo33⟩ := Kd.R_slice HO_9.out
     subst eo33
     have p295 : 0 ≤ (x14_3 : Int) := of_decide_eq_true (by first | (with_reducible assumption) | assumption)
     have q295 : x14_3 < (t288.length : Int) := of_decide_eq_true (by first | (with_reducible assumption) | assumption)
     obtain ⟨ad295, e295, hx295_0⟩ := Kd.at_int (Kd.R_reads' HO_9.out).2.2 x14_3 p295 q295
     cases e295
     replace p295 := eq_true p295
     replace q295 := eq_true q295
     go_wp2_with (first | ((with_reducible refine gate_callee (f := 21) rfl ?_); refine goesL_ (some 80) rfl rfl Tryd.func21 (by kernel_rfl) rfl #[.int .i64 t282, .int .u32 x13_3, .int .u32 (rd t288 x14_3)] rfl (by (try simp only [List.map_toArray, List.map_cons, List.map_nil]); first | done | rfl | (simp only [List.length_drop, List.length_take]; rfl)) ?_; (with_reducible refine (impl_TurnRow.calls k3 t282 x13_3 (rd t288 x14_3) t296 t297 _ (by first | ((repeat (first | exact HTT.out | apply RT.drewN | apply RT.drew)); done) | exact (HTT.out.on (by repeat (first | (with_reducible first | exact HB.out | apply below_alloc | apply pw_below_drewN | apply below_drew1) | exact HB.out)))) A30.out).mono ?_); rintro e w' ⟨rfl, ⟨nd, rfl⟩⟩; refine ⟨_, rfl, ?_⟩))
     go_ret
     exact ⟨by first | rfl | (simp [errW_none, errW_some] <;> rfl) | (simp [*, errW_none, errW_some] <;> rfl), by repeat (first | (with_reducible first | exact HB.out | apply below_alloc | apply pw_below_drewN | apply below_drew1) | exact HB.out)⟩
   rw [if_pos c31] at H
   have c31b0 : (t297 == 0) = true := beq_iff_eq.mpr c31
   have c31b1 : (t297 != 0) = false := bne_eq_false_iff_eq.mpr c31
   clear c31
   have H' := Aside0.mk H
   clear H
   obtain ⟨Ao32, co32, eo32⟩ := Kd.R_slice HO_9.out
   subst eo32
   have p295 : 0 ≤ (x14_3 : Int) := of_decide_eq_true (by first | (with_reducible assumption) | assumption)
   have q295 : x14_3 < (t288.length : Int) := of_decide_eq_true (by first | (with_reducible assumption) | assumption)
   obtain ⟨ad295, e295, hx295_0⟩ := Kd.at_int (Kd.R_reads' HO_9.out).2.2 x14_3 p295 q295
   cases e295
   replace p295 := eq_true p295
   replace q295 := eq_true q295
   go_wp2_with (first | ((with_reducible refine gate_callee (f := 21) rfl ?_); refine goesL_ (some 80) rfl rfl Tryd.func21 (by kernel_rfl) rfl #[.int .i64 t282, .int .u32 x13_3, .int .u32 (rd t288 x14_3)] rfl (by (try simp only [List.map_toArray, List.map_cons, List.map_nil]); first | done | rfl | (simp only [List.length_drop, List.length_take]; rfl)) ?_; (with_reducible refine (impl_TurnRow.calls k3 t282 x13_3 (rd t288 x14_3) t296 t297 _ (by first | ((repeat (first | exact HTT.out | apply RT.drewN | apply RT.drew)); done) | exact (HTT.out.on (by repeat (first | (with_reducible first | exact HB.out | apply below_alloc | apply pw_below_drewN | apply below_drew1) | exact HB.out)))) A30.out).mono ?_); rintro e w' ⟨rfl, ⟨nd, rfl⟩⟩; refine ⟨_, rfl, ?_⟩))
   go_roundg k3
   case measure => have := HJ2.out; have := HJ12.out; have := HK3.out; omega
   case rel => exact ⟨(t296), (wrap64 (x14_3 + 1)), (by first | rfl | (simp; done) | (simp [*]; done)), (by first | rfl | (simp; done) | (simp [*]; done)), H', ⟨by have := HJ2.out; have := HJ12.out; have := HK3.out; omega⟩, ⟨by (with_reducible repeat (first | apply Kd.R_alloc | apply Kd.R_drewN | apply Kd.R_drew)); exact HO_9.out⟩, ⟨by repeat (first | (with_reducible first | exact HB.out | apply below_alloc | apply pw_below_drewN | apply below_drew1) | exact HB.out)⟩⟩
 rw [if_neg c28] at H
 have c28b0 : decide (x14_3 < (t288.length : Int)) = false := decide_eq_false c28
 clear c28
 have H' := Aside0.mk H
 clear H
 obtain ⟨Ao34, co34, eo34⟩ := Kd.R_slice HO_9.out
 subst eo34
 go_wp2
 go_loopg [17] k3 (fun kq v17 w' => ∃ (x17_4 : Int), v17 = .int .i64 x17_4 ∧ Aside0 (laws_FnRowsPlayed.l1 kq t282 t288 t292 x13_3 x17_4 = some r) ∧ Aside0 (kq ≤ k3) ∧ Aside0 (Kd.R (Kd.int .u32) 25 w' w.heap.size (fun _ => True) (.slice Ao34 t288.length co34) t288) ∧ Aside0 (Below w.heap.size w w'))
 case atStart => exact ⟨(0), (by first | rfl | (simp; done) | (simp [*]; done)), H', ⟨Nat.le_refl _⟩, ⟨by (with_reducible repeat (first | apply Kd.R_alloc | apply Kd.R_drewN | apply Kd.R_drew)); exact HO_9.out⟩, ⟨by repeat (first | (with_reducible first | exact HB.out | apply below_alloc | apply pw_below_drewN | apply below_drew1) | exact HB.out)⟩⟩
 case round =>
 clear H'
 try clear c1
 try clear c2
 try clear p2
 try clear q2
 try clear hx2
 try clear c3
 try clear c5
 try clear c6
 try clear p6
 try clear c7
 try clear c8
 try clear c9
 try clear c10
 try clear c19
 try clear c19b0
 try clear c19b1
 try clear c21
 try clear c26
 try clear c27
 try clear c27b0
 try clear c27b1
 try clear c28
 try clear c28b0
 try clear c29
 try clear c29b0
 try clear p29
 try clear q29
 try clear hx29
 try clear c31
 try clear c31b0
 try clear c31b1
 try clear hx295_0
 try clear p2
 try clear p295
 try clear q295
 obtain ⟨x17_4, rfl, HA, HK4, HO_9, HB⟩ := hrel
 cases gk with
 | zero => exact absurd HA.out (by simp [laws_FnRowsPlayed.l1])
 | succ k4 =>
 have H := HA.out
 clear HA
 simp only [laws_FnRowsPlayed.l1] at H
 by_cases c35 : x17_4 < 8
 rotate_left
 · rw [if_neg c35] at H
   have c35b0 : decide (x17_4 < 8) = false := decide_eq_false c35
   clear c35
   obtain rfl := Option.some.inj H
   go_wp2
   go_ret
   exact ⟨by first | rfl | (simp [errW_none, errW_some] <;> rfl) | (simp [*, errW_none, errW_some] <;> rfl), by repeat (first | (with_reducible first | exact HB.out | apply below_alloc | apply pw_below_drewN | apply below_drew1) | exact HB.out)⟩
 rw [if_pos c35] at H
 have c35b0 : decide (x17_4 < 8) = true := decide_eq_true c35
 clear c35
 replace H := Option.bind_eq_some_iff.mp H
 obtain ⟨⟨t298, t299⟩, A360, H⟩ := H
 replace H : (if t299 = 0 then (if 0 ≤ (IntKind.u64.wrap (x17_4)) then (if (Go.bits .and .u32 (shr .u32 x13_3 (IntKind.u64.wrap (x17_4))) 1) = 1 then (if (t298.length : Int) > 0 then (some false) else (laws_FnRowsPlayed.l1 k4 t282 t288 t292 x13_3 (wrap64 (x17_4 + 1)))) else (laws_FnRowsPlayed.l1 k4 t282 t288 t292 x13_3 (wrap64 (x17_4 + 1)))) else (none)) else (some false)) = some r := H
 have A36 := Aside0.mk A360
 clear A360
 by_cases c37 : t299 = 0
 rotate_left
 · rw [if_neg c37] at H
   have c37b0 : (t299 == 0) = false := beq_eq_false_iff_ne.mpr c37
   have c37b1 : (t299 != 0) = true := bne_iff_ne.mpr c37
   obtain rfl := Option.some.inj H
   go_wp2_with (first | ((with_reducible refine gate_callee (f := 22) rfl ?_); refine goesL_ (some 93) rfl rfl Tryd.func22 (by kernel_rfl) rfl #[.int .i64 t282, .int .i64 x17_4] rfl (by (try simp only [List.map_toArray, List.map_cons, List.map_nil]); first | done | rfl | (simp only [List.length_drop, List.length_take]; rfl)) ?_; (with_reducible refine (impl_TurnsAt.calls t282 x17_4 t298 t299 _ (by first | ((repeat (first | exact HTT.out | apply RT.drewN | apply RT.drew)); done) | exact (HTT.out.on (by repeat (first | (with_reducible first | exact HB.out | apply below_alloc | apply pw_below_drewN | apply below_drew1) | exact HB.out)))) A36.out).mono ?_); rintro e w48 ⟨v300, rfl, ho0, hb⟩; refine ⟨_, rfl, ?_⟩; have n0_ := Aside0.mk (Kd.R_elder' (by (with_reducible repeat (first | apply Kd.R_alloc | apply Kd.R_drewN | apply Kd.R_drew)); exact HO_9.out) (Kd.R_base ho0) hb); have n1_ := Aside0.mk (Kd.R_lower (Kd.R_new' ho0 (Kd.R_lt (by (with_reducible repeat (first | apply Kd.R_alloc | apply Kd.R_drewN | apply Kd.R_drew)); exact HO_9.out))) (below_size (by repeat (first | (with_reducible first | exact HB.out | apply below_alloc | apply pw_below_drewN | apply below_drew1) | exact HB.out)))); have n2_ := Aside0.mk (below_step (by repeat (first | (with_reducible first | exact HB.out | apply below_alloc | apply pw_below_drewN | apply below_drew1) | exact HB.out)) hb); clear HO_9; clear HB; have HO_9 := n0_; have HO301 := n1_; have HB := n2_; clear n0_ n1_ n2_; (try clear hb); (try clear hb2); (try clear hk); (try clear hi); (try clear ho0)))
   go_ret
   exact ⟨by first | rfl | (simp [errW_none, errW_some] <;> rfl) | (simp [*, errW_none, errW_some] <;> rfl), by repeat (first | (with_reducible first | exact HB.out | apply below_alloc | apply pw_below_drewN | apply below_drew1) | exact HB.out)⟩
 rw [if_pos c37] at H
 have c37b0 : (t299 == 0) = true := beq_iff_eq.mpr c37
 have c37b1 : (t299 != 0) = false := bne_eq_false_iff_eq.mpr c37
 clear c37
 obtain ⟨ji38, hji38⟩ : ∃ j_ : Int, (IntKind.u64.wrap (x17_4)) = j_ := ⟨_, rfl⟩
 replace H : (if 0 ≤ (ji38) then (if (Go.bits .and .u32 (shr .u32 x13_3 (ji38)) 1) = 1 then (if (t298.length : Int) > 0 then (some false) else (laws_FnRowsPlayed.l1 k4 t282 t288 t292 x13_3 (wrap64 (x17_4 + 1)))) else (laws_FnRowsPlayed.l1 k4 t282 t288 t292 x13_3 (wrap64 (x17_4 + 1)))) else (none)) = some r := by first | (rw [hji38] at H; exact H) | (simp only [hji38] at H ⊢; exact H)
 (try rw [hji38] at A36)
 by_cases c39 : 0 ≤ (ji38)
 rotate_left
 · rw [if_neg c39] at H
   exact absurd H (by simp)
 rw [if_pos c39] at H
 have c39b0 := eq_true c39
 have c39b1 : decide (0 ≤ (ji38)) = true := decide_eq_true c39
 clear c39
 obtain ⟨ji40, hji40⟩ : ∃ j_ : Int, (shr .u32 x13_3 (ji38)) = j_ := ⟨_, rfl⟩
 replace H : (if (Go.bits .and .u32 (ji40) 1) = 1 then (if (t298.length : Int) > 0 then (some false) else (laws_FnRowsPlayed.l1 k4 t282 t288 t292 x13_3 (wrap64 (x17_4 + 1)))) else (laws_FnRowsPlayed.l1 k4 t282 t288 t292 x13_3 (wrap64 (x17_4 + 1)))) = some r := by first | (rw [hji40] at H; exact H) | (simp only [hji40] at H ⊢; exact H)
 (try rw [hji40] at A36)
 have hji40_ : (x13_3 / 2 ^ min (ji38).toNat 32) = ji40 := hji40
 have hji40z : (ji38) ≤ 32 → (x13_3 / 2 ^ (ji38).toNat) = ji40 := shr_small hji40
 by_cases c41 : (Go.bits .and .u32 (ji40) 1) = 1
 rotate_left
 · rw [if_neg c41] at H
   have c41b0 : ((Go.bits .and .u32 (ji40) 1) == 1) = false := beq_eq_false_iff_ne.mpr c41
   have c41b1 : ((Go.bits .and .u32 (ji40) 1) != 1) = true := bne_iff_ne.mpr c41
   have H' := Aside0.mk H
   clear H
   go_wp2_with (first | ((with_reducible refine gate_callee (f := 22) rfl ?_); refine goesL_ (some 93) rfl rfl Tryd.func22 (by kernel_rfl) rfl #[.int .i64 t282, .int .i64 x17_4] rfl (by (try simp only [List.map_toArray, List.map_cons, List.map_nil]); first | done | rfl | (simp only [List.length_drop, List.length_take]; rfl)) ?_; (with_reducible refine (impl_TurnsAt.calls t282 x17_4 t298 t299 _ (by first | ((repeat (first | exact HTT.out | apply RT.drewN | apply RT.drew)); done) | exact (HTT.out.on (by repeat (first | (with_reducible first | exact HB.out | apply below_alloc | apply pw_below_drewN | apply below_drew1) | exact HB.out)))) A36.out).mono ?_); rintro e w47 ⟨v300, rfl, ho0, hb⟩; refine ⟨_, rfl, ?_⟩; have n0_ := Aside0.mk (Kd.R_elder' (by (with_reducible repeat (first | apply Kd.R_alloc | apply Kd.R_drewN | apply Kd.R_drew)); exact HO_9.out) (Kd.R_base ho0) hb); have n1_ := Aside0.mk (Kd.R_lower (Kd.R_new' ho0 (Kd.R_lt (by (with_reducible repeat (first | apply Kd.R_alloc | apply Kd.R_drewN | apply Kd.R_drew)); exact HO_9.out))) (below_size (by repeat (first | (with_reducible first | exact HB.out | apply below_alloc | apply pw_below_drewN | apply below_drew1) | exact HB.out)))); have n2_ := Aside0.mk (below_step (by repeat (first | (with_reducible first | exact HB.out | apply below_alloc | apply pw_below_drewN | apply below_drew1) | exact HB.out)) hb); clear HO_9; clear HB; have HO_9 := n0_; have HO301 := n1_; have HB := n2_; clear n0_ n1_ n2_; (try clear hb); (try clear hb2); (try clear hk); (try clear hi); (try clear ho0)))
   go_roundg k4
   case measure => have := HJ2.out; have := HJ12.out; have := HK3.out; have := HK4.out; omega
   case rel => exact ⟨(wrap64 (x17_4 + 1)), (by first | rfl | (simp; done) | (simp [*]; done)), H', ⟨by have := HJ2.out; have := HJ12.out; have := HK3.out; have := HK4.out; omega⟩, ⟨by (with_reducible repeat (first | apply Kd.R_alloc | apply Kd.R_drewN | apply Kd.R_drew)); exact Kd.R_mono HO_9.out (fun _ hk => trivial)⟩, ⟨by repeat (first | (with_reducible first | exact HB.out | apply below_alloc | apply pw_below_drewN | apply below_drew1) | exact HB.out)⟩⟩
 rw [if_pos c41] at H
 have c41b0 : ((Go.bits .and .u32 (ji40) 1) == 1) = true := beq_iff_eq.mpr c41
 have c41b1 : ((Go.bits .and .u32 (ji40) 1) != 1) = false := bne_eq_false_iff_eq.mpr c41
 clear c41
 by_cases c42 : (t298.length : Int) > 0
 · rw [if_pos c42] at H
   have c42b0 : decide (0 < (t298.length : Int)) = true := decide_eq_true c42
   have c42b1 : decide (0 < t298.length) = true := decide_eq_true (by omega)
   clear c42
   obtain rfl := Option.some.inj H
   go_wp2_with (first | ((with_reducible refine gate_callee (f := 22) rfl ?_); refine goesL_ (some 93) rfl rfl Tryd.func22 (by kernel_rfl) rfl #[.int .i64 t282, .int .i64 x17_4] rfl (by (try simp only [List.map_toArray, List.map_cons, List.map_nil]); first | done | rfl | (simp only [List.length_drop, List.length_take]; rfl)) ?_; (with_reducible refine (impl_TurnsAt.calls t282 x17_4 t298 t299 _ (by first | ((repeat (first | exact HTT.out | apply RT.drewN | apply RT.drew)); done) | exact (HTT.out.on (by repeat (first | (with_reducible first | exact HB.out | apply below_alloc | apply pw_below_drewN | apply below_drew1) | exact HB.out)))) A36.out).mono ?_); rintro e w43 ⟨v300, rfl, ho0, hb⟩; refine ⟨_, rfl, ?_⟩; have n0_ := Aside0.mk (Kd.R_elder' (by (with_reducible repeat (first | apply Kd.R_alloc | apply Kd.R_drewN | apply Kd.R_drew)); exact HO_9.out) (Kd.R_base ho0) hb); have n1_ := Aside0.mk (Kd.R_lower (Kd.R_new' ho0 (Kd.R_lt (by (with_reducible repeat (first | apply Kd.R_alloc | apply Kd.R_drewN | apply Kd.R_drew)); exact HO_9.out))) (below_size (by repeat (first | (with_reducible first | exact HB.out | apply below_alloc | apply pw_below_drewN | apply below_drew1) | exact HB.out)))); have n2_ := Aside0.mk (below_step (by repeat (first | (with_reducible first | exact HB.out | apply below_alloc | apply pw_below_drewN | apply below_drew1) | exact HB.out)) hb); clear HO_9; clear HB; have HO_9 := n0_; have HO301 := n1_; have HB := n2_; clear n0_ n1_ n2_; (try clear hb); (try clear hb2); (try clear hk); (try clear hi); (try clear ho0); obtain ⟨Ao44, co44, eo44⟩ := Kd.R_slice HO301.out; subst eo44))
   go_ret
   exact ⟨by first | rfl | (simp [errW_none, errW_some] <;> rfl) | (simp only [← hji38, ← hji40]; first | rfl | (simp [errW_none, errW_some] <;> rfl)) | (simp [*, errW_none, errW_some] <;> rfl), by repeat (first | (with_reducible first | exact HB.out | apply below_alloc | apply pw_below_drewN | apply below_drew1) | exact HB.out)⟩
 rw [if_neg c42] at H
 have c42b0 : decide (0 < (t298.length : Int)) = false := decide_eq_false c42
 have c42b1 : decide (0 < t298.length) = false := decide_eq_false (by omega)
 clear c42
 have H' := Aside0.mk H
 clear H
 go_wp2_with (first | ((with_reducible refine gate_callee (f := 22) rfl ?_); refine goesL_ (some 93) rfl rfl Tryd.func22 (by kernel_rfl) rfl #[.int .i64 t282, .int .i64 x17_4] rfl (by (try simp only [List.map_toArray, List.map_cons, List.map_nil]); first | done | rfl | (simp only [List.length_drop, List.length_take]; rfl)) ?_; (with_reducible refine (impl_TurnsAt.calls t282 x17_4 t298 t299 _ (by first | ((repeat (first | exact HTT.out | apply RT.drewN | apply RT.drew)); done) | exact (HTT.out.on (by repeat (first | (with_reducible first | exact HB.out | apply below_alloc | apply pw_below_drewN | apply below_drew1) | exact HB.out)))) A36.out).mono ?_); rintro e w45 ⟨v300, rfl, ho0, hb⟩; refine ⟨_, rfl, ?_⟩; have n0_ := Aside0.mk (Kd.R_elder' (by (with_reducible repeat (first | apply Kd.R_alloc | apply Kd.R_drewN | apply Kd.R_drew)); exact HO_9.out) (Kd.R_base ho0) hb); have n1_ := Aside0.mk (Kd.R_lower (Kd.R_new' ho0 (Kd.R_lt (by (with_reducible repeat (first | apply Kd.R_alloc | apply Kd.R_drewN | apply Kd.R_drew)); exact HO_9.out))) (below_size (by repeat (first | (with_reducible first | exact HB.out | apply below_alloc | apply pw_below_drewN | apply below_drew1) | exact HB.out)))); have n2_ := Aside0.mk (below_step (by repeat (first | (with_reducible first | exact HB.out | apply below_alloc | apply pw_below_drewN | apply below_drew1) | exact HB.out)) hb); clear HO_9; clear HB; have HO_9 := n0_; have HO301 := n1_; have HB := n2_; clear n0_ n1_ n2_; (try clear hb); (try clear hb2); (try clear hk); (try clear hi); (try clear ho0); obtain ⟨Ao46, co46, eo46⟩ := Kd.R_slice HO301.out; subst eo46))
 go_roundg k4
 case measure => have := HJ2.out; have := HJ12.out; have := HK3.out; have := HK4.out; omega
 case rel => exact ⟨(wrap64 (x17_4 + 1)), (by first | rfl | (simp; done) | (simp [*]; done)), H', ⟨by have := HJ2.out; have := HJ12.out; have := HK3.out; have := HK4.out; omega⟩, ⟨by (with_reducible repeat (first | apply Kd.R_alloc | apply Kd.R_drewN | apply Kd.R_drew)); exact Kd.R_mono HO_9.out (fun _ hk => trivial)⟩, ⟨by repeat (first | (with_reducible first | exact HB.out | apply below_alloc | apply pw_below_drewN | apply below_drew1) | exact HB.out)⟩⟩

/-- THE ONE PURE STATEMENT of laws_FnRowsPlayed: yours. -/
def laws_FnRowsPlayed.Pure : Prop := ∀ (l0 : List Int) (l1 : List Int), l0.length ≤ maxLen → l0.length * 1 ≤ 140737488351232 → (∀ x ∈ l0, (Lit.int .u8 x).wf = true) → l1.length ≤ maxLen → l1.length * 1 ≤ 140737488351232 → (∀ x ∈ l1, (Lit.int .u8 x).wf = true) → ∃ k, laws_FnRowsPlayed.f k l0 l1 = some true
theorem laws_FnRowsPlayed.walk (P : laws_FnRowsPlayed.Pure) (a0 : Option Addr) (len0 cap0 : Nat) (z0 : List Int) (a1 : Option Addr) (len1 cap1 : Nat) (z1 : List Int) (w : World) (hT : RT w) (w0 : (a0 = none ∧ len0 = 0 ∧ cap0 = 0 ∧ z0 = []) ∨ ∃ x, a0 = some x ∧ len0 ≤ cap0 ∧ cap0 ≤ maxLen ∧ z0.length = cap0 ∧ (∀ i, i < z0.length → w.cell? (x.add i) = some (.int .u8 (z0.getD i 0))) ∧ ∀ n ∈ z0, (Lit.int .u8 n).wf = true) (y0 : len0 * 1 ≤ 140737488351232) (w1 : (a1 = none ∧ len1 = 0 ∧ cap1 = 0 ∧ z1 = []) ∨ ∃ x, a1 = some x ∧ len1 ≤ cap1 ∧ cap1 ≤ maxLen ∧ z1.length = cap1 ∧ (∀ i, i < z1.length → w.cell? (x.add i) = some (.int .u8 (z1.getD i 0))) ∧ ∀ n ∈ z1, (Lit.int .u8 n).wf = true) (y1 : len1 * 1 ≤ 140737488351232) :
    Calls Tryd.prog 6 #[.slice a0 len0 cap0, .slice a1 len1 cap1] w fun e w' => e = .returned (.bool true) ∧ Below w.heap.size w w' := by
 obtain ⟨l0, rfl, hr0, hm0, hw0, hc0⟩ := ReadsInt.ofRowC w0
 obtain ⟨l1, rfl, hr1, hm1, hw1, hc1⟩ := ReadsInt.ofRowC w1
 obtain ⟨k, h⟩ := P l0 l1 hm0 y0 hw0 hm1 y1 hw1
 refine (laws_FnRowsPlayed.calls k _ _ l0 _ _ l1 true w (Kd.C_of_reads (d := (0 : Int)) (h1 := fun _ => rfl) hr0) hc0 (Kd.C_of_reads (d := (0 : Int)) (h1 := fun _ => rfl) hr1) hc1 hT h).mono ?_
 rintro e w' ⟨rfl, hd⟩
 exact ⟨rfl, hd⟩

end Go.Proofs.YtkgnjfoclhkgkaaDoor.RFnRowsPlayed
