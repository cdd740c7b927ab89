/- The law WordText returns true, for whatever slice, where the table of the powers of ten lies in the world: walked. -/
import Derived.Test.YtcghgceihnfnhaaDoorProg
import Derived.Below
import Derived.Deep.Draws
import Derived.Deep.AppendLies
import Derived.Maps.AppendAt
import Derived.OwnWalk
import Derived.Laws.BytesArg
import Derived.Laws.MakeOwn
import Derived.Laws.OwnMore
import Derived.Deep.OwnRows
import Derived.Tactics
import Derived.Lib.ConvBytes
import Derived.Laws.Slices
import Derived.WalkKit
import Derived.KernelRfl
import Derived.RowKit3
import Derived.Deep.LoopGhost
import Derived.Deep.QuietTactic
import Derived.BigQuiet
import Derived.WideLaws
import Derived.Deep.DeepCutAuto
import Derived.Deep.CutBlock
import Derived.Deep.RegionHeld3
import Derived.Laws.Rows
import Derived.Lib.AppendStr
import Derived.ArgAppend
import Derived.Laws.IdiomCopy
import Derived.OrdersHeld
import Derived.Laws.BitsLemmas
import Derived.RowKit
import Derived.Lib.Hide
import Derived.WalkSpells
import Derived.Test.YtcghgceihnfnhaaDoorWWords
import Derived.Test.YtcghgceihnfnhaaDoorWLast
import Derived.Test.YtcghgceihnfnhaaDoorWTab
import Derived.Test.YtcghgceihnfnhaaDoorWFour
import Derived.Test.YtcghgceihnfnhaaDoorWQPut
import Derived.Test.YtcghgceihnfnhaaDoorWApart
import Derived.Test.YtcghgceihnfnhaaDoorWArr
import Derived.Test.YtcghgceihnfnhaaDoorWZeros
import Derived.Test.YtcghgceihnfnhaaDoorWFoot
import Derived.Test.YtcghgceihnfnhaaDoorWKept
import Derived.Test.YtcghgceihnfnhaaDoorWShare
import Derived.Test.YtcghgceihnfnhaaDoorWN
import Derived.Test.YtcghgceihnfnhaaDoorWFootNe
import Derived.Test.YtcghgceihnfnhaaDoorWAt
import Derived.Test.YtcghgceihnfnhaaDoorWEqStruct
import Derived.Test.YtcghgceihnfnhaaDoorWRepsOne
import Derived.Test.YtcghgceihnfnhaaDoorWInv
import Derived.Test.YtcghgceihnfnhaaDoorWInvWords
import Derived.Test.YtcghgceihnfnhaaDoorWGuard
import Derived.Test.YtcghgceihnfnhaaDoorWNEv
import Derived.Test.YtcghgceihnfnhaaDoorWMore
import Derived.Test.YtcghgceihnfnhaaDoorN1
import Derived.Test.YtcghgceihnfnhaaDoorST
import Derived.Test.YtcghgceihnfnhaaDoorRTWx1
import Derived.Test.YtcghgceihnfnhaaDoorREWx1
namespace Go.Proofs.YtcghgceihnfnhaaDoor.Given
open Go.RowKit Go.Proofs.YtcghgceihnfnhaaDoorW.PrintWords Go.Proofs.YtcghgceihnfnhaaDoorW.PrintLast Go.Proofs.YtcghgceihnfnhaaDoorW.PrintMore Go.Proofs.YtcghgceihnfnhaaDoor.NimF Go.Proofs.YtcghgceihnfnhaaDoor.NimGo
set_option linter.unusedVariables false
set_option linter.unusedSimpArgs false
open Go.Proofs.YtcghgceihnfnhaaDoor.RL01
open Go.Proofs.YtcghgceihnfnhaaDoor.RTW
open Go.Proofs.YtcghgceihnfnhaaDoor.REW
set_option maxHeartbeats 1000000 in
theorem sNims_calls (A0 : Option Addr) (c0 : Nat) (l0 : List Int) (w : World) (hr0 : Kd.C (Kd.int .u16) w A0 l0.length l0) (hl0 : l0.length ≤ 1048576) (hv : ∀ a ∈ l0, 0 ≤ a ∧ a ≤ 65535) :
    Calls Tryd.prog 28 #[.slice A0 l0.length c0] w fun e w' => e = .returned (.string (listB l0)) ∧ Below w.heap.size w w' := by
  have HC := Lib.hid (sList_calls A0 c0 l0 w hr0 hl0 hv)
  clear hr0 hl0 hv
  go_enter Tryd.func28, Tryd.ntmps28
  go_wp2_with (go_at_call 35; refine HC.out.mono ?_; rintro e w2 ⟨rfl, hb⟩; have HB2 := Lib.hid hb; clear hb)
  go_ret
  exact ⟨rfl, HB2.out⟩
set_option maxHeartbeats 1000000 in
theorem sWordText_calls (A0 : Option Addr) (c0 : Nat) (l0 : List Int) (w : World) (hr0 : Kd.C (Kd.int .u16) w A0 l0.length l0) (hl0 : l0.length ≤ 1048576) (hv : ∀ a ∈ l0, 0 ≤ a ∧ a ≤ 65535) :
    Calls Tryd.prog 17 #[.slice A0 l0.length c0] w fun e w' => e = .returned (.string (listB l0)) ∧ Below w.heap.size w w' := by
  have HC := Lib.hid (sNims_calls A0 c0 l0 w hr0 hl0 hv)
  clear hr0 hl0 hv
  go_enter Tryd.func17, Tryd.ntmps17
  go_wp2_with (go_at_call 28; refine HC.out.mono ?_; rintro e w2 ⟨rfl, hb⟩; have HB2 := Lib.hid hb; clear hb)
  go_ret
  exact ⟨rfl, HB2.out⟩

theorem toWord_ev (l : List Int) (h : l.length ≤ 1048576) : ∃ K, ∀ k, K ≤ k → laws_toWord.f k l = some l :=
  to_ev (fun _ _ => rfl) (fun _ _ _ _ => rfl) l (by omega)
theorem eqWord_ev (l : List Int) (h : l.length ≤ 1048576) : ∃ K, ∀ k, K ≤ k → laws_eqWord.f k l l = some true :=
  eq_refl_ev (fun _ _ _ => rfl) (fun _ _ _ _ => rfl) l (by omega)

/-- the copy that the law makes of its argument -/
theorem toWord_calls (A0 : Option Addr) (c0 : Nat) (l0 : List Int) (w : World) (hr0 : Kd.C (Kd.int .u16) w A0 l0.length l0) (hc0 : l0.length ≤ c0) (hl0 : l0.length ≤ 1048576) :
    Calls Tryd.prog 18 #[.slice A0 l0.length c0] w fun e w' => ∃ A c, e = .returned (.slice A l0.length c) ∧ l0.length ≤ c ∧ Kd.C (Kd.int .u16) w' A l0.length l0 ∧ Below w.heap.size w w' := by
  obtain ⟨K, hK⟩ := toWord_ev l0 hl0
  refine (laws_toWord.calls K A0 c0 l0 l0 w hr0 hc0 (hK K (Nat.le_refl _))).mono fun e w' ⟨v, he, hR, hb⟩ => ?_
  obtain ⟨A, c, rfl⟩ := Kd.R_slice hR
  obtain ⟨_, h2, h3⟩ := Kd.R_reads' hR
  exact ⟨A, c, he, h2, h3, hb⟩
theorem eqWord_calls (A0 : Option Addr) (c0 : Nat) (A1 : Option Addr) (c1 : Nat) (l0 : List Int) (w : World) (hr0 : Kd.C (Kd.int .u16) w A0 l0.length l0) (hc0 : l0.length ≤ c0) (hr1 : Kd.C (Kd.int .u16) w A1 l0.length l0) (hc1 : l0.length ≤ c1) (hl0 : l0.length ≤ 1048576) :
    Calls Tryd.prog 9 #[.slice A0 l0.length c0, .slice A1 l0.length c1] w fun e w' => e = .returned (.bool true) ∧ Drawn0 w w' := by
  obtain ⟨K, hK⟩ := eqWord_ev l0 hl0
  exact laws_eqWord.calls K A0 c0 l0 A1 c1 l0 true w hr0 hc0 hr1 hc1 (hK K (Nat.le_refl _))
set_option maxHeartbeats 4000000 in
theorem lawWord_big (A0 : Option Addr) (c0 : Nat) (l0 : List Int) (w : World) (hl0 : ¬ l0.length ≤ 1048576) (hm : l0.length ≤ 9223372036854775807) :
    Calls Tryd.prog 5 #[.slice A0 l0.length c0] w fun e w' => e = .returned (.bool true) ∧ Below w.heap.size w w' := by
  have hb : decide ((1048576 : Int) < (l0.length : Int)) = true := decide_eq_true (by omega)
  have hb2 : (1048576 : Int) < (l0.length : Int) := by omega
  clear hl0
  go_enter Tryd.func5, Tryd.ntmps5
  go_wp2
  go_ret
  exact ⟨rfl, Below.refl _ _⟩
set_option maxHeartbeats 4000000 in
set_option maxRecDepth 100000 in
theorem lawWord_calls (A0 : Option Addr) (c0 : Nat) (l0 : List Int) (w : World) (hr0 : Kd.C (Kd.int .u16) w A0 l0.length l0) (hc0 : l0.length ≤ c0) (hv : ∀ a ∈ l0, 0 ≤ a ∧ a ≤ 65535) (hT : P10 w) :
    Calls Tryd.prog 5 #[.slice A0 l0.length c0] w fun e w' => e = .returned (.bool true) ∧ Below w.heap.size w w' := by
  by_cases hl0 : l0.length ≤ 1048576
  · have HR := Lib.hid hr0
    have HB : Hid (Below w.heap.size w w) := Lib.hid (Below.refl _ _)
    have HTW := fun W (h : Below w.heap.size w W) => Lib.hid (toWord_calls A0 c0 l0 W (Kd.C_below hr0 h) hc0 hl0)
    have HSW := fun A c W (h : Kd.C (Kd.int .u16) W A l0.length l0) => Lib.hid (sWordText_calls A c l0 W h hl0 hv)
    have HIW := fun A c W (h : Kd.C (Kd.int .u16) W A l0.length l0) (hw : Below w.heap.size w W) => Lib.hid (wordText_calls A c l0 W h hl0 hv (hT.on hw))
    have HEQ := fun A c A' c' W (h : Kd.C (Kd.int .u16) W A l0.length l0) (hc : l0.length ≤ c) (h' : Kd.C (Kd.int .u16) W A' l0.length l0) (hc' : l0.length ≤ c') => Lib.hid (eqWord_calls A c A' c' l0 W h hc h' hc' hl0)
    have hb : decide ((1048576 : Int) < (l0.length : Int)) = false := decide_eq_false (by omega)
    have hb2 : (l0.length : Int) ≤ 1048576 := by omega
    clear hr0 hc0 hv hT hl0
    obtain ⟨s, es⟩ : ∃ s, listB l0 = s := ⟨_, rfl⟩
    rw [es] at HSW HIW
    clear es
    go_enter Tryd.func5, Tryd.ntmps5
    go_wp2_with (go_at_call 18; refine (HTW _ HB.out).out.mono ?_; rintro e w1 ⟨A1, c1, rfl, hc1, hr1, hb1⟩; have HC1 := Lib.hid hc1; have HR1 := Lib.hid hr1; have HB1 := Lib.hid (below_step HB.out hb1); clear hc1 hr1 hb1; refine Hid.out ?_)
    refine Lib.hid ?_
    go_wp2_with (go_at_call 17; refine (HSW _ _ _ HR1.out).out.mono ?_; rintro e w2 ⟨rfl, hb1⟩; have HB2 := Lib.hid (below_step HB1.out hb1); clear hb1; refine Hid.out ?_)
    refine Lib.hid ?_
    go_wp2_with (go_at_call 18; refine (HTW _ HB2.out).out.mono ?_; rintro e w3 ⟨A3, c3, rfl, hc3, hr3, hb3⟩; have HC3 := Lib.hid hc3; have HR3 := Lib.hid hr3; have HB3 := Lib.hid (below_step HB2.out hb3); clear hc3 hr3 hb3; refine Hid.out ?_)
    refine Lib.hid ?_
    go_wp2_with (go_at_call 19; refine (HIW _ _ _ HR3.out HB3.out).out.mono ?_; rintro e w4 ⟨rfl, hb4⟩; have HB4 := Lib.hid (below_step HB3.out hb4); have HR4 := Lib.hid (Kd.C_below HR3.out hb4); clear hb4; refine Hid.out ?_)
    refine Lib.hid ?_
    go_wp2_with (go_at_call 18; refine (HTW _ HB4.out).out.mono ?_; rintro e w5 ⟨A5, c5, rfl, hc5, hr5, hb5⟩; have HC5 := Lib.hid hc5; have HR5 := Lib.hid hr5; have HB5 := Lib.hid (below_step HB4.out hb5); have HR6 := Lib.hid (Kd.C_below HR4.out hb5); clear hc5 hr5 hb5; refine Hid.out ?_)
    refine Lib.hid ?_
    go_wp2_with (go_at_call 9; refine (HEQ _ _ _ _ _ HR6.out HC3.out HR5.out HC5.out).out.mono ?_; rintro e w6 ⟨rfl, ⟨m, rfl⟩⟩)
    go_ret
    exact ⟨rfl, pw_below_drewN HB5.out _⟩
  · exact lawWord_big A0 c0 l0 w hl0 (Kd.C_max hr0)

end Go.Proofs.YtcghgceihnfnhaaDoor.Given
