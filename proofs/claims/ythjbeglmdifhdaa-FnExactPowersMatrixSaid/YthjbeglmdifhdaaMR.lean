/- Walks of functions that the print does not take. -/
import Derived.Deep.WholeRow
import Derived.Test.YthjbeglmdifhdaaProg
import Derived.Below
import Derived.Deep.Draws
import Derived.Deep.AppendLies
import Derived.Maps.AppendAt
import Derived.OwnWalk
import Derived.Laws.BytesArg
import Derived.Laws.MakeOwn
import Derived.Laws.OwnMore
import Derived.Deep.OwnRows
import Derived.Tactics
import Derived.Lib.ConvBytes
import Derived.Laws.Slices
import Derived.WalkKit
import Derived.KernelRfl
import Derived.RowKit3
import Derived.Deep.LoopGhost
import Derived.Deep.QuietTactic
import Derived.BigQuiet
import Derived.WideLaws
import Derived.Deep.DeepCutAuto
import Derived.Deep.CutBlock
import Derived.Deep.RegionHeld3
import Derived.Laws.Rows
import Derived.Lib.AppendStr
import Derived.ArgAppend
import Derived.Laws.IdiomCopy
import Derived.OrdersHeld
import Derived.Laws.BitsLemmas
import Derived.RowKit
import Derived.Lib.Hide
import Derived.WalkSpells
import Derived.Test.YthjbeglmdifhdaaWWords
import Derived.Test.YthjbeglmdifhdaaWLast
import Derived.Test.YthjbeglmdifhdaaWTab
import Derived.Test.YthjbeglmdifhdaaWFour
import Derived.Test.YthjbeglmdifhdaaWQPut
import Derived.Test.YthjbeglmdifhdaaWApart
import Derived.Test.YthjbeglmdifhdaaWArr
import Derived.Test.YthjbeglmdifhdaaWZeros
import Derived.Test.YthjbeglmdifhdaaWFoot
import Derived.Test.YthjbeglmdifhdaaWKept
import Derived.Test.YthjbeglmdifhdaaWShare
import Derived.Test.YthjbeglmdifhdaaWN
import Derived.Test.YthjbeglmdifhdaaWFootNe
import Derived.Test.YthjbeglmdifhdaaWAt
import Derived.Test.YthjbeglmdifhdaaWEqStruct
import Derived.Test.YthjbeglmdifhdaaWRepsOne
import Derived.Test.YthjbeglmdifhdaaWInv
import Derived.Test.YthjbeglmdifhdaaWInvWords
import Derived.Test.YthjbeglmdifhdaaWGuard
import Derived.Test.YthjbeglmdifhdaaWNEv
import Derived.Test.YthjbeglmdifhdaaWMore
import Derived.Test.YthjbeglmdifhdaaN1
import Derived.Test.YthjbeglmdifhdaaMQ
import Derived.Test.YthjbeglmdifhdaaMG
namespace Go.Proofs.Ythjbeglmdifhdaa.Given
open Go.RowKit Go.Proofs.YthjbeglmdifhdaaW.PrintWords Go.Proofs.YthjbeglmdifhdaaW.PrintLast Go.Proofs.YthjbeglmdifhdaaW.PrintMore Go.Proofs.Ythjbeglmdifhdaa.NimF Go.Proofs.Ythjbeglmdifhdaa.NimGo
set_option linter.unusedVariables false
set_option linter.unusedSimpArgs false
open Go.Proofs.Ythjbeglmdifhdaa.RFnExactPowersMatrix Go.Proofs.Ythjbeglmdifhdaa.Pure
theorem kRi {e : Nat} {w : World} {base : Nat} {ok : Nat → Prop} {v : Value} {xs : List Int} (h : (Kd.int .u16).R e w base ok v xs) : ∃ A c, v = .slice A xs.length c ∧ xs.length ≤ c ∧ Kd.C (Kd.int .u16) w A xs.length xs := by
  obtain ⟨A, c, rfl⟩ := Kd.R_slice h
  exact ⟨A, c, rfl, (Kd.R_reads' h).2.1, (Kd.R_reads' h).2.2⟩
/-- numbers that are read in some world -/
def HasI (w : World) (A : Option Addr) (c : Nat) (l : List Int) : Prop := l.length ≤ c ∧ Kd.C (Kd.int .u16) w A l.length l
theorem HasI.below {w w1 : World} {A : Option Addr} {c : Nat} {l : List Int} (h : HasI w A c l) (hb : Below w.heap.size w w1) : HasI w1 A c l := ⟨h.1, Kd.C_below h.2 hb⟩
theorem HasI.alloc {w : World} {A : Option Addr} {c : Nat} {l : List Int} (h : HasI w A c l) (o : Obj) : HasI (w.alloc o) A c l := ⟨h.1, Kd.C_alloc h.2 o⟩
theorem HasI.drew {w : World} {A : Option Addr} {c : Nat} {l : List Int} (h : HasI w A c l) : HasI w.drew A c l := ⟨h.1, Kd.C_drew h.2⟩
theorem HasI.drewN {w : World} {A : Option Addr} {c : Nat} {l : List Int} (h : HasI w A c l) (n : Nat) : HasI (w.drewN n) A c l := ⟨h.1, Kd.C_drewN h.2 n⟩
theorem toN_calls (A : Option Addr) (c : Nat) (l : List Int) (w : World) (h : Kd.C (Kd.int .u16) w A l.length l) (hc : l.length ≤ c) (hl : l.length ≤ 1048576) :
    Calls Try.prog 12 #[.slice A l.length c] w fun e w' => ∃ B d, e = .returned (.slice B l.length d) ∧ Hid (HasI w' B d l) ∧ Below w.heap.size w w' := by
  obtain ⟨K, hK⟩ := toNimberS_ev l hl
  refine (laws_toNimberS.calls K A c l l w h hc (hK K (Nat.le_refl _))).mono ?_
  rintro e w' ⟨v, rfl, k, hb⟩
  obtain ⟨B, d, rfl, h1, h2⟩ := kRi k
  exact ⟨B, d, rfl, Lib.hid ⟨h1, h2⟩, hb⟩
theorem eqN_calls (A B : Option Addr) (c d : Nat) (l : List Int) (w : World) (h : HasI w A c l) (h' : HasI w B d l) (hl : l.length ≤ 1048576) :
    Calls Try.prog 15 #[.slice A l.length c, .slice B l.length d] w fun e w' => e = .returned (.bool true) ∧ Drawn0 w w' := by
  obtain ⟨K, hK⟩ := eqNimberS_ev l hl
  exact laws_eqNimberS.calls K A c l B d l true w h.2 h.1 h'.2 h'.1 (hK K (Nat.le_refl _))
set_option maxHeartbeats 8000000 in
set_option maxRecDepth 100000 in
theorem lawPowers_calls (A : Option Addr) (cp : Nat) (xs : List Int) (k : Int) (w : World) (hr : Kd.C (Kd.int .u16) w A xs.length xs) (hc : xs.length ≤ cp) (hx : W16 xs) :
    Calls Try.prog 3 #[.slice A xs.length cp, .int .i64 k] w fun e w' => e = .returned (.bool true) ∧ Below w.heap.size w w' := by
  by_cases hl : xs.length ≤ 1048576
  · have hb0 : decide ((1048576 : Int) < (xs.length : Int)) = false := decide_eq_false (by omega)
    have hb1 : (xs.length : Int) ≤ 1048576 := by omega
    obtain ⟨R, C, L, e0, hL, he⟩ := pmRes xs k
    have HB := Lib.hid (Below.refl w.heap.size w)
    have HT := Lib.hid (fun (W : World) (hW : Below w.heap.size w W) => toN_calls A cp xs W (Kd.C_below hr hW) hc hl)
    have HSP := Lib.hid (fun (W : World) (B : Option Addr) (d : Nat) (h : HasI W B d xs) => he ▸ specPowers_calls B d xs k W h.2 h.1 hx)
    have HIM := Lib.hid (fun (W : World) (B : Option Addr) (d : Nat) (h : HasI W B d xs) => he ▸ implPowers_calls B d xs k W h.2 h.1 hx)
    have HEQ := Lib.hid (fun (W : World) (A B : Option Addr) (c d : Nat) (h : HasI W A c xs) (h' : HasI W B d xs) => eqN_calls A B c d xs W h h' hl)
    have HE8 := Lib.hid (fun W => eqM_calls R C L hL W)
    have OC := Lib.hid (M36 (r := R) (c := C) hL)
    generalize (M R C L).toArray = cs at HSP HIM HE8 OC
    clear hr hc hx hl hL he
    have tA : True := trivial
    have tB : True := trivial
    have tC : True := trivial
    go_enter Try.func3, Try.ntmps3
    go_wp2_with (first
      | (go_at_call 12; have _t := tA; (with_reducible refine (HT.out _ ?hW).mono ?_); (case hW => repeat (first | (with_reducible first | exact HB.out | apply below_alloc | apply pw_below_drewN | apply below_drew) | exact HB.out)); rintro e w1 ⟨B, d, rfl, HX, hb⟩; have HBn := Lib.hid (below_step (w := w) (by repeat (first | (with_reducible first | exact HB.out | apply below_alloc | apply pw_below_drewN | apply below_drew) | exact HB.out)) hb); clear HB; have HB := HBn; clear HBn hb; clear _t tA)
      | (go_at_call 11; (with_reducible refine (HSP.out _ _ _ ?hX).mono ?_); (case hX => exact (by (with_reducible repeat (first | apply HasI.alloc | apply HasI.drewN | apply HasI.drew)); exact HX.out)); rintro e w2 ⟨rfl, hb⟩; clear HX; have HBn := Lib.hid (below_step (w := w) (by repeat (first | (with_reducible first | exact HB.out | apply below_alloc | apply pw_below_drewN | apply below_drew) | exact HB.out)) hb); clear HB; have HB := HBn; clear HBn hb)
      | ((with_reducible refine wpList_store_row rfl 29 (.tmp 5) (.tmp 18) rfl _ cs ?hx ?hy 29 _ (blk_new _ _) ?hi ?ho OC.out.2 ?_); (case hx => rfl); (case hy => rfl); (case hi => rw [OC.out.1]; exact inf29); (case ho => rw [OC.out.1]; rfl); rw [World.setRow_alloc_new]; have B5 : Hid ((w2.alloc (.cells cs 29)).heap[w2.heap.size]? = some (.cells cs 29 (0, 0))) := Lib.hid (blk_new _ _); have HBn := Lib.hid (below_alloc HB.out (.cells cs 29)); clear HB; have HB := HBn; clear HBn; generalize w2.alloc (.cells cs 29) = w2n at HB B5 ⊢)
      | (go_at_call 12; have _t := tB; (with_reducible refine (HT.out _ ?hW).mono ?_); (case hW => repeat (first | (with_reducible first | exact HB.out | apply below_alloc | apply pw_below_drewN | apply below_drew) | exact HB.out)); rintro e w3 ⟨B, d, rfl, HX, hb⟩; have HBn := Lib.hid (below_step (w := w) (by repeat (first | (with_reducible first | exact HB.out | apply below_alloc | apply pw_below_drewN | apply below_drew) | exact HB.out)) hb); have B5n := Lib.hid (blk_below (by (with_reducible repeat (first | refine blk_drewN ?_ _ | refine blk_drew ?_ | refine blk_alloc ?_ _)); exact B5.out) hb); clear B5; have B5 := B5n; clear B5n; clear HB; have HB := HBn; clear HBn hb; clear _t tB)
      | (go_at_call 13; (with_reducible refine (HIM.out _ _ _ ?hX).mono ?_); (case hX => exact (by (with_reducible repeat (first | apply HasI.alloc | apply HasI.drewN | apply HasI.drew)); exact HX.out)); rintro e w4 ⟨rfl, hb⟩; have HBn := Lib.hid (below_step (w := w) (by repeat (first | (with_reducible first | exact HB.out | apply below_alloc | apply pw_below_drewN | apply below_drew) | exact HB.out)) hb); have B5n := Lib.hid (blk_below (by (with_reducible repeat (first | refine blk_drewN ?_ _ | refine blk_drew ?_ | refine blk_alloc ?_ _)); exact B5.out) hb); clear B5; have B5 := B5n; clear B5n; have HXn := Lib.hid (HasI.below (by (with_reducible repeat (first | apply HasI.alloc | apply HasI.drewN | apply HasI.drew)); exact HX.out) hb); clear HX; have HX := HXn; clear HXn; clear HB; have HB := HBn; clear HBn hb)
      | ((with_reducible refine wpList_store_row rfl 29 (.tmp 8) (.tmp 26) rfl _ cs ?hx ?hy 29 _ (blk_new _ _) ?hi ?ho OC.out.2 ?_); (case hx => rfl); (case hy => rfl); (case hi => rw [OC.out.1]; exact inf29); (case ho => rw [OC.out.1]; rfl); rw [World.setRow_alloc_new]; have B8 : Hid ((w4.alloc (.cells cs 29)).heap[w4.heap.size]? = some (.cells cs 29 (0, 0))) := Lib.hid (blk_new _ _); have HBn := Lib.hid (below_alloc HB.out (.cells cs 29)); clear HB; have HB := HBn; clear HBn; have B5n := Lib.hid (blk_alloc B5.out (.cells cs 29)); clear B5; have B5 := B5n; clear B5n; have HXn := Lib.hid (HasI.alloc HX.out (.cells cs 29)); clear HX; have HX := HXn; clear HXn; generalize w4.alloc (.cells cs 29) = w4n at HB B8 B5 HX ⊢)
      | ((with_reducible refine wpList_load_row rfl 29 (.tmp 8) rfl (w4.heap.size) ?hx 29 cs (0, 0) _ ?hB Try.underlying29 rfl ?hi ?_); (case hx => rfl); (case hB => (with_reducible repeat (first | refine blk_drewN ?_ _ | refine blk_drew ?_ | refine blk_alloc ?_ _)); exact B8.out); (case hi => rw [OC.out.1]; exact inf29))
      | ((with_reducible refine wpList_load_row rfl 29 (.tmp 5) rfl (w2.heap.size) ?hx 29 cs (0, 0) _ ?hB Try.underlying29 rfl ?hi ?_); (case hx => rfl); (case hB => (with_reducible repeat (first | refine blk_drewN ?_ _ | refine blk_drew ?_ | refine blk_alloc ?_ _)); exact B5.out); (case hi => rw [OC.out.1]; exact inf29))
      | (go_at_call 14; (with_reducible refine (HE8.out _).mono ?_); rintro e w5 ⟨rfl, hb⟩; have HBn := Lib.hid (below_step (w := w) (by repeat (first | (with_reducible first | exact HB.out | apply below_alloc | apply pw_below_drewN | apply below_drew) | exact HB.out)) hb); have HXn := Lib.hid (HasI.below (by (with_reducible repeat (first | apply HasI.alloc | apply HasI.drewN | apply HasI.drew)); exact HX.out) hb); clear HX; have HX := HXn; clear HXn; clear HB; have HB := HBn; clear HBn hb)
      | (go_at_call 12; have _t := tC; (with_reducible refine (HT.out _ ?hW).mono ?_); (case hW => repeat (first | (with_reducible first | exact HB.out | apply below_alloc | apply pw_below_drewN | apply below_drew) | exact HB.out)); rintro e w6 ⟨B', d', rfl, HY, hb⟩; have HBn := Lib.hid (below_step (w := w) (by repeat (first | (with_reducible first | exact HB.out | apply below_alloc | apply pw_below_drewN | apply below_drew) | exact HB.out)) hb); have HXn := Lib.hid (HasI.below (by (with_reducible repeat (first | apply HasI.alloc | apply HasI.drewN | apply HasI.drew)); exact HX.out) hb); clear HX; have HX := HXn; clear HXn; clear HB; have HB := HBn; clear HBn hb; clear _t tC)
      | (go_at_call 15; (with_reducible refine (HEQ.out _ _ _ _ _ ?hX ?hY).mono ?_); (case hX => exact (by (with_reducible repeat (first | apply HasI.alloc | apply HasI.drewN | apply HasI.drew)); exact HX.out)); (case hY => exact (by (with_reducible repeat (first | apply HasI.alloc | apply HasI.drewN | apply HasI.drew)); exact HY.out)); rintro e w7 ⟨rfl, ⟨m8, rfl⟩⟩))
    go_ret
    exact ⟨rfl, by repeat (first | (with_reducible first | exact HB.out | apply below_alloc | apply pw_below_drewN | apply below_drew) | exact HB.out)⟩
  · have hb0 : decide ((1048576 : Int) < (xs.length : Int)) = true := decide_eq_true (by omega)
    have hb1 : (1048576 : Int) < (xs.length : Int) := by omega
    clear hr hx
    go_enter Try.func3, Try.ntmps3
    go_wp2
    go_ret
    exact ⟨rfl, Below.refl _ _⟩

end Go.Proofs.Ythjbeglmdifhdaa.Given
