/- The law PolyText returns true, for whatever slice, where the table of the powers of ten lies in the world: walked. -/
import Derived.Test.YtcghgceihnfnhaaDoorProg
import Derived.Below
import Derived.Deep.Draws
import Derived.Deep.AppendLies
import Derived.Maps.AppendAt
import Derived.OwnWalk
import Derived.Laws.BytesArg
import Derived.Laws.MakeOwn
import Derived.Laws.OwnMore
import Derived.Deep.OwnRows
import Derived.Tactics
import Derived.Lib.ConvBytes
import Derived.Laws.Slices
import Derived.WalkKit
import Derived.KernelRfl
import Derived.RowKit3
import Derived.Deep.LoopGhost
import Derived.Deep.QuietTactic
import Derived.BigQuiet
import Derived.WideLaws
import Derived.Deep.DeepCutAuto
import Derived.Deep.CutBlock
import Derived.Deep.RegionHeld3
import Derived.Laws.Rows
import Derived.Lib.AppendStr
import Derived.ArgAppend
import Derived.Laws.IdiomCopy
import Derived.OrdersHeld
import Derived.Laws.BitsLemmas
import Derived.RowKit
import Derived.Lib.Hide
import Derived.WalkSpells
import Derived.Test.YtcghgceihnfnhaaDoorWWords
import Derived.Test.YtcghgceihnfnhaaDoorWLast
import Derived.Test.YtcghgceihnfnhaaDoorWTab
import Derived.Test.YtcghgceihnfnhaaDoorWFour
import Derived.Test.YtcghgceihnfnhaaDoorWQPut
import Derived.Test.YtcghgceihnfnhaaDoorWApart
import Derived.Test.YtcghgceihnfnhaaDoorWArr
import Derived.Test.YtcghgceihnfnhaaDoorWZeros
import Derived.Test.YtcghgceihnfnhaaDoorWFoot
import Derived.Test.YtcghgceihnfnhaaDoorWKept
import Derived.Test.YtcghgceihnfnhaaDoorWShare
import Derived.Test.YtcghgceihnfnhaaDoorWN
import Derived.Test.YtcghgceihnfnhaaDoorWFootNe
import Derived.Test.YtcghgceihnfnhaaDoorWAt
import Derived.Test.YtcghgceihnfnhaaDoorWEqStruct
import Derived.Test.YtcghgceihnfnhaaDoorWRepsOne
import Derived.Test.YtcghgceihnfnhaaDoorWInv
import Derived.Test.YtcghgceihnfnhaaDoorWInvWords
import Derived.Test.YtcghgceihnfnhaaDoorWGuard
import Derived.Test.YtcghgceihnfnhaaDoorWNEv
import Derived.Test.YtcghgceihnfnhaaDoorWMore
import Derived.Test.YtcghgceihnfnhaaDoorN1
import Derived.Test.YtcghgceihnfnhaaDoorST
import Derived.Test.YtcghgceihnfnhaaDoorRTPx1
import Derived.Test.YtcghgceihnfnhaaDoorREPx1
namespace Go.Proofs.YtcghgceihnfnhaaDoor.Given
open Go.RowKit Go.Proofs.YtcghgceihnfnhaaDoorW.PrintWords Go.Proofs.YtcghgceihnfnhaaDoorW.PrintLast Go.Proofs.YtcghgceihnfnhaaDoorW.PrintMore Go.Proofs.YtcghgceihnfnhaaDoor.NimF Go.Proofs.YtcghgceihnfnhaaDoor.NimGo
set_option linter.unusedVariables false
set_option linter.unusedSimpArgs false
open Go.Proofs.YtcghgceihnfnhaaDoor.RL01
open Go.Proofs.YtcghgceihnfnhaaDoor.RTP
open Go.Proofs.YtcghgceihnfnhaaDoor.REP
/-- no more numbers than a polynomial may have, the last of them not 0 -/
def vpol (l : List Int) : Bool := l.length == 0 || (decide (l.length ≤ 21) && l.getD (l.length - 1) 0 != 0)
set_option maxHeartbeats 1000000 in
theorem vp_calls (A0 : Option Addr) (c0 : Nat) (l0 : List Int) (r : Bool) (w : World) (hr0 : Kd.C (Kd.int .u16) w A0 l0.length l0) (hh : vpol l0 = r) :
    Calls Tryd.prog 27 #[.slice A0 l0.length c0] w fun e w' => e = .returned (.bool r) ∧ w' = w := by
  unfold vpol at hh
  by_cases h21 : l0.length ≤ 21
  · by_cases h0 : l0.length = 0
    · have e : r = true := by rw [← hh, h0]; rfl
      subst e
      have g1 : (l0.length : Int) ≤ 21 := by omega
      have g0 : (l0.length : Int) = 0 := by omega
      have HX := Lib.hid h0
      clear hh hr0 h21 h0
      rw [HX.out] at g0 g1 ⊢
      go_enter Tryd.func27, Tryd.ntmps27
      go_wp2
      go_ret
      exact ⟨rfl, rfl⟩
    · obtain ⟨m, hm⟩ : ∃ m, l0.length = m + 1 := ⟨l0.length - 1, by omega⟩
      obtain ⟨ad, e, hx⟩ := Kd.at_int hr0 (m : Int) (by omega) (by omega)
      subst e
      rw [rd_nat, Int.toNat_natCast] at hx
      have e1 : (l0.length == 0) = false := beq_eq_false_iff_ne.mpr h0
      have e2 : l0.length - 1 = m := by omega
      rw [e1, decide_eq_true h21, e2] at hh
      obtain ⟨x, ex⟩ : ∃ x : Int, l0.getD m 0 = x := ⟨_, rfl⟩
      rw [ex] at hx hh
      rw [hm]
      have hnb : m < 9223372036854775807 := by omega
      have g1 : (m : Int) + 1 ≤ 21 := by omega
      have g2 : m + 1 ≤ 21 := by omega
      have HH : Hid ((x != 0) = r) := Lib.hid (by rw [← hh]; rfl)
      clear hh ex e1 e2 h0 h21 hr0 hm
      by_cases hz : x = 0
      · have hr : r = false := by rw [← HH.out, hz]; rfl
        subst hr hz
        go_enter Tryd.func27, Tryd.ntmps27
        go_wp2
        go_ret
        exact ⟨rfl, rfl⟩
      · have hr : r = true := by rw [← HH.out]; exact bne_iff_ne.mpr hz
        subst hr
        have hb : (x != 0) = true := bne_iff_ne.mpr hz
        have hb2 : (x == 0) = false := beq_eq_false_iff_ne.mpr hz
        go_enter Tryd.func27, Tryd.ntmps27
        go_wp2
        go_ret
        exact ⟨rfl, rfl⟩
  · have e : r = false := by
      have h0 : (l0.length == 0) = false := beq_eq_false_iff_ne.mpr (by omega)
      rw [← hh, h0, decide_eq_false h21]; rfl
    subst e
    have g1 : ¬ ((l0.length : Int) ≤ 21) := by omega
    have g2 : 21 < (l0.length : Int) := by omega
    clear hh h21 hr0
    go_enter Tryd.func27, Tryd.ntmps27
    go_wp2
    go_ret
    exact ⟨rfl, rfl⟩

set_option maxHeartbeats 1000000 in
theorem ok_calls (A0 : Option Addr) (c0 : Nat) (l0 : List Int) (r : Bool) (w : World) (hr0 : Kd.C (Kd.int .u16) w A0 l0.length l0) (hh : vpol l0 = r) :
    Calls Tryd.prog 26 #[.slice A0 l0.length c0] w fun e w' => e = .returned (.bool r) ∧ Drawn0 w w' := by
  unfold vpol at hh
  by_cases h21 : l0.length ≤ 21
  · by_cases h0 : l0.length = 0
    · have e : r = true := by rw [← hh, h0]; rfl
      subst e
      have g1 : (l0.length : Int) ≤ 21 := by omega
      have g0 : (l0.length : Int) = 0 := by omega
      have HX := Lib.hid h0
      clear hh hr0 h21 h0
      rw [HX.out] at g0 g1 ⊢
      go_enter Tryd.func26, Tryd.ntmps26
      go_wp2
      go_ret
      exact ⟨rfl, Drawn0.refl _⟩
    · obtain ⟨m, hm⟩ : ∃ m, l0.length = m + 1 := ⟨l0.length - 1, by omega⟩
      obtain ⟨ad, e, hx⟩ := Kd.at_int hr0 (m : Int) (by omega) (by omega)
      subst e
      rw [rd_nat, Int.toNat_natCast] at hx
      have e1 : (l0.length == 0) = false := beq_eq_false_iff_ne.mpr h0
      have e2 : l0.length - 1 = m := by omega
      rw [e1, decide_eq_true h21, e2] at hh
      obtain ⟨x, ex⟩ : ∃ x : Int, l0.getD m 0 = x := ⟨_, rfl⟩
      rw [ex] at hx hh
      rw [hm]
      have hnb : m < 9223372036854775807 := by omega
      have g1 : (m : Int) + 1 ≤ 21 := by omega
      have g2 : m + 1 ≤ 21 := by omega
      have g3 : ((m : Int) + 1 == 0) = false := beq_eq_false_iff_ne.mpr (by omega)
      have HH : Hid ((x != 0) = r) := Lib.hid (by rw [← hh]; rfl)
      clear hh ex e1 e2 h0 h21 hr0 hm
      by_cases hz : x = 0
      · have hr : r = false := by rw [← HH.out, hz]; rfl
        subst hr hz
        go_enter Tryd.func26, Tryd.ntmps26
        go_wp2
        go_ret
        exact ⟨rfl, Drawn0.refl _⟩
      · have hr : r = true := by rw [← HH.out]; exact bne_iff_ne.mpr hz
        subst hr
        have hb : (x != 0) = true := bne_iff_ne.mpr hz
        have hb2 : (x == 0) = false := beq_eq_false_iff_ne.mpr hz
        go_enter Tryd.func26, Tryd.ntmps26
        go_wp2
        go_ret
        exact ⟨rfl, Drawn0.refl _⟩
  · have h0 : (l0.length == 0) = false := beq_eq_false_iff_ne.mpr (by omega)
    have e : r = false := by
      rw [← hh, h0, decide_eq_false h21]; rfl
    subst e
    have g1 : ¬ ((l0.length : Int) ≤ 21) := by omega
    have g2 : 21 < (l0.length : Int) := by omega
    have g3 : ((l0.length : Int) == 0) = false := beq_eq_false_iff_ne.mpr (by omega)
    clear hh h21 hr0
    go_enter Tryd.func26, Tryd.ntmps26
    go_wp2
    go_ret
    exact ⟨rfl, Drawn0.refl _⟩
/-- the text of a polynomial -/
def polyB (l : List Int) : ByteArray := if vpol l = true then (if l.length = 0 then ⟨#[48]⟩ else listB l) else ⟨#[]⟩
set_option maxHeartbeats 1000000 in
theorem sPolyText_calls (A0 : Option Addr) (c0 : Nat) (l0 : List Int) (w : World) (hr0 : Kd.C (Kd.int .u16) w A0 l0.length l0) (hl0 : l0.length ≤ 1048576) (hv : ∀ a ∈ l0, 0 ≤ a ∧ a ≤ 65535) :
    Calls Tryd.prog 20 #[.slice A0 l0.length c0] w fun e w' => e = .returned (.string (polyB l0)) ∧ Below w.heap.size w w' := by
  obtain ⟨v, hv2⟩ : ∃ v, vpol l0 = v := ⟨_, rfl⟩
  have HO := Lib.hid (ok_calls A0 c0 l0 v w hr0 hv2)
  have HC := fun m => Lib.hid (sList_calls A0 c0 l0 (w.drewN m) (Kd.C_drewN hr0 m) hl0 hv)
  have HP : Hid (polyB l0 = if v = true then (if l0.length = 0 then ⟨#[48]⟩ else listB l0) else ⟨#[]⟩) := Lib.hid (by unfold polyB; rw [hv2])
  have h5 : Hid (∀ s : ByteArray, True) := Lib.hid (fun _ => trivial)
  clear hr0 hl0 hv hv2
  cases v with
  | false =>
    have HQ : Hid (polyB l0 = ⟨#[]⟩) := Lib.hid (by rw [HP.out]; rfl)
    go_enter Tryd.func20, Tryd.ntmps20
    go_wp2_with (go_at_call 26; refine HO.out.mono ?_; rintro e w' ⟨rfl, ⟨m, rfl⟩⟩)
    go_ret
    exact ⟨by rw [HQ.out]; rfl, pw_below_drewN (Below.refl _ _) _⟩
  | true =>
    by_cases h0 : l0.length = 0
    · have HQ : Hid (polyB l0 = ⟨#[48]⟩) := Lib.hid (by rw [HP.out, if_pos rfl, if_pos h0])
      have e1 : ((l0.length : Int) == 0) = true := by rw [h0]; rfl
      have e2 : (l0.length : Int) = 0 := by omega
      have HX := Lib.hid h0
      clear h0
      rw [HX.out] at HO e1 e2 ⊢
      go_enter Tryd.func20, Tryd.ntmps20
      go_wp2_with (first | (go_at_call 26; refine HO.out.mono ?_; rintro e w' ⟨rfl, ⟨m, rfl⟩⟩) | go_in)
      go_ret
      exact ⟨by rw [HQ.out]; rfl, pw_below_drewN (Below.refl _ _) _⟩
    · have HQ : Hid (polyB l0 = listB l0) := Lib.hid (by rw [HP.out, if_pos rfl, if_neg h0])
      have e1 : ((l0.length : Int) == 0) = false := beq_eq_false_iff_ne.mpr (by omega)
      have e2 : ¬ ((l0.length : Int) = 0) := by omega
      clear h0
      go_enter Tryd.func20, Tryd.ntmps20
      go_wp2_with (first | (go_at_call 26; refine HO.out.mono ?_; rintro e w' ⟨rfl, ⟨m, rfl⟩⟩) | (go_at_call 35; refine (HC _).out.mono ?_; rintro e w' ⟨rfl, hb⟩; have HB := Lib.hid hb; clear hb) | go_in)
      go_ret
      exact ⟨by rw [HQ.out]; rfl, below_step (pw_below_drewN (Below.refl _ _) _) HB.out⟩
set_option maxHeartbeats 1000000 in
theorem polyText_calls (A0 : Option Addr) (c0 : Nat) (l0 : List Int) (w : World) (hr0 : Kd.C (Kd.int .u16) w A0 l0.length l0) (hl0 : l0.length ≤ 1048576) (hv : ∀ a ∈ l0, 0 ≤ a ∧ a ≤ 65535) (hT : P10 w) :
    Calls Tryd.prog 22 #[.slice A0 l0.length c0] w fun e w' => e = .returned (.string (polyB l0)) ∧ Below w.heap.size w w' := by
  obtain ⟨v, hv2⟩ : ∃ v, vpol l0 = v := ⟨_, rfl⟩
  have HO := Lib.hid (vp_calls A0 c0 l0 v w hr0 hv2)
  have HC := Lib.hid (nimsText_calls A0 c0 l0 w hr0 hl0 hv hT)
  have HP : Hid (polyB l0 = if v = true then (if l0.length = 0 then ⟨#[48]⟩ else listB l0) else ⟨#[]⟩) := Lib.hid (by unfold polyB; rw [hv2])
  clear hr0 hl0 hv hv2 hT
  cases v with
  | false =>
    have HQ : Hid (polyB l0 = ⟨#[]⟩) := Lib.hid (by rw [HP.out]; rfl)
    go_enter Tryd.func22, Tryd.ntmps22
    go_wp2_with (go_at_call 27; refine HO.out.mono ?_; rintro e w' ⟨rfl, hw_⟩; have hw2_ := hw_.symm; clear hw_; subst hw2_)
    go_ret
    exact ⟨by rw [HQ.out]; rfl, Below.refl _ _⟩
  | true =>
    by_cases h0 : l0.length = 0
    · have HQ : Hid (polyB l0 = ⟨#[48]⟩) := Lib.hid (by rw [HP.out, if_pos rfl, if_pos h0])
      have e1 : ((l0.length : Int) == 0) = true := by rw [h0]; rfl
      have e2 : (l0.length : Int) = 0 := by omega
      have HX := Lib.hid h0
      clear h0
      rw [HX.out] at HO e1 e2 ⊢
      go_enter Tryd.func22, Tryd.ntmps22
      go_wp2_with (go_at_call 27; refine HO.out.mono ?_; rintro e w' ⟨rfl, hw_⟩; have hw2_ := hw_.symm; clear hw_; subst hw2_)
      go_ret
      exact ⟨by rw [HQ.out]; rfl, Below.refl _ _⟩
    · have HQ : Hid (polyB l0 = listB l0) := Lib.hid (by rw [HP.out, if_pos rfl, if_neg h0])
      have e1 : ((l0.length : Int) == 0) = false := beq_eq_false_iff_ne.mpr (by omega)
      have e2 : ¬ ((l0.length : Int) = 0) := by omega
      clear h0
      go_enter Tryd.func22, Tryd.ntmps22
      go_wp2_with (first | (go_at_call 27; refine HO.out.mono ?_; rintro e w' ⟨rfl, hw_⟩; have hw2_ := hw_.symm; clear hw_; subst hw2_) | (go_at_call 29; refine HC.out.mono ?_; rintro e w' ⟨rfl, hb⟩; have HB := Lib.hid hb; clear hb))
      go_ret
      exact ⟨by rw [HQ.out]; rfl, HB.out⟩

theorem toPoly_ev (l : List Int) (h : l.length ≤ 1048576) : ∃ K, ∀ k, K ≤ k → laws_toPoly.f k l = some l :=
  to_ev (fun _ _ => rfl) (fun _ _ _ _ => rfl) l (by omega)
theorem eqPoly_ev (l : List Int) (h : l.length ≤ 1048576) : ∃ K, ∀ k, K ≤ k → laws_eqPoly.f k l l = some true :=
  eq_refl_ev (fun _ _ _ => rfl) (fun _ _ _ _ => rfl) l (by omega)

/-- the copy that the law makes of its argument -/
theorem toPoly_calls (A0 : Option Addr) (c0 : Nat) (l0 : List Int) (w : World) (hr0 : Kd.C (Kd.int .u16) w A0 l0.length l0) (hc0 : l0.length ≤ c0) (hl0 : l0.length ≤ 1048576) :
    Calls Tryd.prog 21 #[.slice A0 l0.length c0] w fun e w' => ∃ A c, e = .returned (.slice A l0.length c) ∧ l0.length ≤ c ∧ Kd.C (Kd.int .u16) w' A l0.length l0 ∧ Below w.heap.size w w' := by
  obtain ⟨K, hK⟩ := toPoly_ev l0 hl0
  refine (laws_toPoly.calls K A0 c0 l0 l0 w hr0 hc0 (hK K (Nat.le_refl _))).mono fun e w' ⟨v, he, hR, hb⟩ => ?_
  obtain ⟨A, c, rfl⟩ := Kd.R_slice hR
  obtain ⟨_, h2, h3⟩ := Kd.R_reads' hR
  exact ⟨A, c, he, h2, h3, hb⟩
theorem eqPoly_calls (A0 : Option Addr) (c0 : Nat) (A1 : Option Addr) (c1 : Nat) (l0 : List Int) (w : World) (hr0 : Kd.C (Kd.int .u16) w A0 l0.length l0) (hc0 : l0.length ≤ c0) (hr1 : Kd.C (Kd.int .u16) w A1 l0.length l0) (hc1 : l0.length ≤ c1) (hl0 : l0.length ≤ 1048576) :
    Calls Tryd.prog 14 #[.slice A0 l0.length c0, .slice A1 l0.length c1] w fun e w' => e = .returned (.bool true) ∧ Drawn0 w w' := by
  obtain ⟨K, hK⟩ := eqPoly_ev l0 hl0
  exact laws_eqPoly.calls K A0 c0 l0 A1 c1 l0 true w hr0 hc0 hr1 hc1 (hK K (Nat.le_refl _))
set_option maxHeartbeats 4000000 in
theorem lawPoly_big (A0 : Option Addr) (c0 : Nat) (l0 : List Int) (w : World) (hl0 : ¬ l0.length ≤ 1048576) (hm : l0.length ≤ 9223372036854775807) :
    Calls Tryd.prog 6 #[.slice A0 l0.length c0] w fun e w' => e = .returned (.bool true) ∧ Below w.heap.size w w' := by
  have hb : decide ((1048576 : Int) < (l0.length : Int)) = true := decide_eq_true (by omega)
  have hb2 : (1048576 : Int) < (l0.length : Int) := by omega
  clear hl0
  go_enter Tryd.func6, Tryd.ntmps6
  go_wp2
  go_ret
  exact ⟨rfl, Below.refl _ _⟩
set_option maxHeartbeats 4000000 in
set_option maxRecDepth 100000 in
theorem lawPoly_calls (A0 : Option Addr) (c0 : Nat) (l0 : List Int) (w : World) (hr0 : Kd.C (Kd.int .u16) w A0 l0.length l0) (hc0 : l0.length ≤ c0) (hv : ∀ a ∈ l0, 0 ≤ a ∧ a ≤ 65535) (hT : P10 w) :
    Calls Tryd.prog 6 #[.slice A0 l0.length c0] w fun e w' => e = .returned (.bool true) ∧ Below w.heap.size w w' := by
  by_cases hl0 : l0.length ≤ 1048576
  · have HR := Lib.hid hr0
    have HB : Hid (Below w.heap.size w w) := Lib.hid (Below.refl _ _)
    have HTW := fun W (h : Below w.heap.size w W) => Lib.hid (toPoly_calls A0 c0 l0 W (Kd.C_below hr0 h) hc0 hl0)
    have HSW := fun A c W (h : Kd.C (Kd.int .u16) W A l0.length l0) => Lib.hid (sPolyText_calls A c l0 W h hl0 hv)
    have HIW := fun A c W (h : Kd.C (Kd.int .u16) W A l0.length l0) (hw : Below w.heap.size w W) => Lib.hid (polyText_calls A c l0 W h hl0 hv (hT.on hw))
    have HEQ := fun A c A' c' W (h : Kd.C (Kd.int .u16) W A l0.length l0) (hc : l0.length ≤ c) (h' : Kd.C (Kd.int .u16) W A' l0.length l0) (hc' : l0.length ≤ c') => Lib.hid (eqPoly_calls A c A' c' l0 W h hc h' hc' hl0)
    have hb : decide ((1048576 : Int) < (l0.length : Int)) = false := decide_eq_false (by omega)
    have hb2 : (l0.length : Int) ≤ 1048576 := by omega
    clear hr0 hc0 hv hT hl0
    obtain ⟨s, es⟩ : ∃ s, polyB l0 = s := ⟨_, rfl⟩
    rw [es] at HSW HIW
    clear es
    go_enter Tryd.func6, Tryd.ntmps6
    go_wp2_with (go_at_call 21; refine (HTW _ HB.out).out.mono ?_; rintro e w1 ⟨A1, c1, rfl, hc1, hr1, hb1⟩; have HC1 := Lib.hid hc1; have HR1 := Lib.hid hr1; have HB1 := Lib.hid (below_step HB.out hb1); clear hc1 hr1 hb1; refine Hid.out ?_)
    refine Lib.hid ?_
    go_wp2_with (go_at_call 20; refine (HSW _ _ _ HR1.out).out.mono ?_; rintro e w2 ⟨rfl, hb1⟩; have HB2 := Lib.hid (below_step HB1.out hb1); clear hb1; refine Hid.out ?_)
    refine Lib.hid ?_
    go_wp2_with (go_at_call 21; refine (HTW _ HB2.out).out.mono ?_; rintro e w3 ⟨A3, c3, rfl, hc3, hr3, hb3⟩; have HC3 := Lib.hid hc3; have HR3 := Lib.hid hr3; have HB3 := Lib.hid (below_step HB2.out hb3); clear hc3 hr3 hb3; refine Hid.out ?_)
    refine Lib.hid ?_
    go_wp2_with (go_at_call 22; refine (HIW _ _ _ HR3.out HB3.out).out.mono ?_; rintro e w4 ⟨rfl, hb4⟩; have HB4 := Lib.hid (below_step HB3.out hb4); have HR4 := Lib.hid (Kd.C_below HR3.out hb4); clear hb4; refine Hid.out ?_)
    refine Lib.hid ?_
    go_wp2_with (go_at_call 21; refine (HTW _ HB4.out).out.mono ?_; rintro e w5 ⟨A5, c5, rfl, hc5, hr5, hb5⟩; have HC5 := Lib.hid hc5; have HR5 := Lib.hid hr5; have HB5 := Lib.hid (below_step HB4.out hb5); have HR6 := Lib.hid (Kd.C_below HR4.out hb5); clear hc5 hr5 hb5; refine Hid.out ?_)
    refine Lib.hid ?_
    go_wp2_with (go_at_call 14; refine (HEQ _ _ _ _ _ HR6.out HC3.out HR5.out HC5.out).out.mono ?_; rintro e w6 ⟨rfl, ⟨m, rfl⟩⟩)
    go_ret
    exact ⟨rfl, pw_below_drewN HB5.out _⟩
  · exact lawPoly_big A0 c0 l0 w hl0 (Kd.C_max hr0)

end Go.Proofs.YtcghgceihnfnhaaDoor.Given
