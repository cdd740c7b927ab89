/- Walks of functions that the print does not take. -/
import Derived.Deep.WholeRow
import Derived.Test.YtabdpdnofljkcaaProg
import Derived.Below
import Derived.Deep.Draws
import Derived.Deep.AppendLies
import Derived.Maps.AppendAt
import Derived.OwnWalk
import Derived.Laws.BytesArg
import Derived.Laws.MakeOwn
import Derived.Laws.OwnMore
import Derived.Deep.OwnRows
import Derived.Tactics
import Derived.Lib.ConvBytes
import Derived.Laws.Slices
import Derived.WalkKit
import Derived.KernelRfl
import Derived.RowKit3
import Derived.Deep.LoopGhost
import Derived.Deep.QuietTactic
import Derived.BigQuiet
import Derived.WideLaws
import Derived.Deep.DeepCutAuto
import Derived.Deep.CutBlock
import Derived.Deep.RegionHeld3
import Derived.Laws.Rows
import Derived.Lib.AppendStr
import Derived.ArgAppend
import Derived.Laws.IdiomCopy
import Derived.OrdersHeld
import Derived.Laws.BitsLemmas
import Derived.RowKit
import Derived.Lib.Hide
import Derived.WalkSpells
import Derived.Test.YtabdpdnofljkcaaWWords
import Derived.Test.YtabdpdnofljkcaaWLast
import Derived.Test.YtabdpdnofljkcaaWTab
import Derived.Test.YtabdpdnofljkcaaWFour
import Derived.Test.YtabdpdnofljkcaaWQPut
import Derived.Test.YtabdpdnofljkcaaWApart
import Derived.Test.YtabdpdnofljkcaaWArr
import Derived.Test.YtabdpdnofljkcaaWZeros
import Derived.Test.YtabdpdnofljkcaaWFoot
import Derived.Test.YtabdpdnofljkcaaWKept
import Derived.Test.YtabdpdnofljkcaaWShare
import Derived.Test.YtabdpdnofljkcaaWN
import Derived.Test.YtabdpdnofljkcaaWFootNe
import Derived.Test.YtabdpdnofljkcaaWAt
import Derived.Test.YtabdpdnofljkcaaWEqStruct
import Derived.Test.YtabdpdnofljkcaaWRepsOne
import Derived.Test.YtabdpdnofljkcaaWInv
import Derived.Test.YtabdpdnofljkcaaWInvWords
import Derived.Test.YtabdpdnofljkcaaWGuard
import Derived.Test.YtabdpdnofljkcaaWNEv
import Derived.Test.YtabdpdnofljkcaaWMore
import Derived.Test.YtabdpdnofljkcaaN1
import Derived.Test.YtabdpdnofljkcaaGW
import Derived.Test.YtabdpdnofljkcaaRFnExactLeastApartOfx1
namespace Go.Proofs.Ytabdpdnofljkcaa.Given
open Go.RowKit Go.Proofs.YtabdpdnofljkcaaW.PrintWords Go.Proofs.YtabdpdnofljkcaaW.PrintLast Go.Proofs.YtabdpdnofljkcaaW.PrintMore Go.Proofs.Ytabdpdnofljkcaa.NimF Go.Proofs.Ytabdpdnofljkcaa.NimGo
set_option linter.unusedVariables false
set_option linter.unusedSimpArgs false
open Go.Proofs.Ytabdpdnofljkcaa.RFnExactLeastApartOf Go.Proofs.Ytabdpdnofljkcaa.RSW Go.Proofs.Ytabdpdnofljkcaa.Pure
theorem kR {α : Type} {d : Kd α} {e : Nat} {w : World} {base : Nat} {ok : Nat → Prop} {v : Value} {xs : List α} (h : d.R e w base ok v xs) : ∃ A c, v = .slice A xs.length c ∧ xs.length ≤ c ∧ d.C w A xs.length xs := by
  obtain ⟨A, c, rfl⟩ := Kd.R_slice h
  exact ⟨A, c, rfl, (Kd.R_reads' h).2.1, (Kd.R_reads' h).2.2⟩
/-- words that are read in some world -/
def HasW (w : World) (A : Option Addr) (c : Nat) (l : List (List Int)) : Prop := l.length ≤ c ∧ Kd.C (Kd.slice 64 (Kd.int .u16)) w A l.length l
theorem HasW.below {w w1 : World} {A : Option Addr} {c : Nat} {l : List (List Int)} (h : HasW w A c l) (hb : Below w.heap.size w w1) : HasW w1 A c l := ⟨h.1, Kd.C_below h.2 hb⟩
theorem HasW.alloc {w : World} {A : Option Addr} {c : Nat} {l : List (List Int)} (h : HasW w A c l) (o : Obj) : HasW (w.alloc o) A c l := ⟨h.1, Kd.C_alloc h.2 o⟩
theorem HasW.drew {w : World} {A : Option Addr} {c : Nat} {l : List (List Int)} (h : HasW w A c l) : HasW w.drew A c l := ⟨h.1, Kd.C_drew h.2⟩
theorem HasW.drewN {w : World} {A : Option Addr} {c : Nat} {l : List (List Int)} (h : HasW w A c l) (n : Nat) : HasW (w.drewN n) A c l := ⟨h.1, Kd.C_drewN h.2 n⟩
theorem toW_calls (A : Option Addr) (c : Nat) (l : List (List Int)) (w : World) (h : Kd.C (Kd.slice 63 (Kd.int .u16)) w A l.length l) (hc : l.length ≤ c) (hl : l.length ≤ 1048576) (hx : ∀ x ∈ l, x.length ≤ 1048576) :
    Calls Try.prog 11 #[.slice A l.length c] w fun e w' => ∃ B d, e = .returned (.slice B l.length d) ∧ Hid (HasW w' B d l) ∧ Below w.heap.size w w' := by
  obtain ⟨K, hK⟩ := toWordS_ev l hl hx
  refine (laws_toWordS.calls K A c l l w h hc (hK K (Nat.le_refl _))).mono ?_
  rintro e w' ⟨v, rfl, k, hb⟩
  obtain ⟨B, d, rfl, h1, h2⟩ := kR (Kd.S_R k)
  exact ⟨B, d, rfl, Lib.hid ⟨h1, h2⟩, hb⟩
theorem eqW_calls (A B : Option Addr) (c d : Nat) (l : List (List Int)) (w : World) (h : HasW w A c l) (h' : HasW w B d l) (hl : l.length ≤ 1048576) (hx : ∀ x ∈ l, x.length ≤ 1048576) :
    Calls Try.prog 14 #[.slice A l.length c, .slice B l.length d] w fun e w' => e = .returned (.bool true) ∧ Drawn0 w w' := by
  obtain ⟨K, hK⟩ := eqWordS_ev l hl hx
  exact laws_eqWordS.calls K A c l B d l true w h.2 h.1 h'.2 h'.1 (hK K (Nat.le_refl _))
set_option maxHeartbeats 2000000 in
set_option maxRecDepth 100000 in
theorem lawWeights_calls (a0 : Int) (A1 : Option Addr) (c1 : Nat) (l : List (List Int)) (w : World) (hr : Kd.C (Kd.slice 63 (Kd.int .u16)) w A1 l.length l) (hc : l.length ≤ c1) (hm : l.length ≤ maxLen) (hx : ∀ x ∈ l, x.length ≤ maxLen ∧ ∀ n ∈ x, (Lit.int .u16 n).wf = true) :
    Calls Try.prog 3 #[.int .i64 a0, .slice A1 l.length c1] w fun e w' => e = .returned (.bool true) ∧ Below w.heap.size w w' := by
  obtain ⟨v, ⟨K, hK⟩, hv⟩ := sz_ev l hm (fun x m => (hx x m).1)
  have HS := Lib.hid (laws_szWordS.calls K A1 c1 l 1048576 v w hr hc (hK K (Nat.le_refl _)))
  rcases Int.lt_or_le v 0 with hneg | hpos
  · have hb : decide (v < 0) = true := decide_eq_true hneg
    clear hK hv hr hx hm
    go_enter Try.func3, Try.ntmps3
    go_wp2_with (go_at_call 9; (with_reducible refine (HS.out).mono ?_); rintro e w1 ⟨rfl, ⟨m, rfl⟩⟩)
    go_ret
    exact ⟨rfl, pw_below_drewN (Below.refl _ _) _⟩
  · rcases hv with hv | ⟨hl, hxl⟩
    · omega
    · have hb : decide (v < 0) = false := decide_eq_false (by omega)
      have HB := Lib.hid (Below.refl w.heap.size w)
      have HT := Lib.hid (fun (W : World) (hW : Below w.heap.size w W) => toW_calls A1 c1 l W (Kd.C_below hr hW) hc hl hxl)
      have HSP := Lib.hid (fun (W : World) (B : Option Addr) (d : Nat) (h : HasW W B d l) => specWeights_calls a0 B d l W h.2 h.1 hl hxl)
      have HIM := Lib.hid (fun (W : World) (B : Option Addr) (d : Nat) (h : HasW W B d l) => implWeights_calls a0 B d l W h.2 h.1 hl hxl)
      have HEQ := Lib.hid (fun (W : World) (A B : Option Addr) (c d : Nat) (h : HasW W A c l) (h' : HasW W B d l) => eqW_calls A B c d l W h h' hl hxl)
      have HE8 := Lib.hid (fun (W : World) => eqA8_calls (wtsR a0 l) (by unfold wtsR; split; exact wtsN_length _ _; rfl) W)
      have hsz8 : (a8 (wtsR a0 l)).size = 8 := by rw [a8_size]; unfold wtsR; split; exact wtsN_length _ _; rfl
      have HON := Lib.hid (And.intro hsz8 (a8_one (wtsR a0 l)))
      generalize a8 (wtsR a0 l) = cs at HSP HIM HE8 HON
      generalize listW a0 l [] = cd at HSP HIM
      clear hK hr hx hm hxl hl hsz8
      have tA : True := trivial
      have tB : True := trivial
      have tC : True := trivial
      have tD : True := trivial
      go_enter Try.func3, Try.ntmps3
      go_wp2_with (first
        | (go_at_call 9; (with_reducible refine (HS.out).mono ?_); rintro e w1 ⟨rfl, ⟨m, rfl⟩⟩)
        | (go_at_call 11; have _t := tA; (with_reducible refine (HT.out _ ?hW).mono ?_); (case hW => repeat (first | (with_reducible first | exact HB.out | apply below_alloc | apply pw_below_drewN | apply below_drew) | exact HB.out)); rintro e w2 ⟨B, d, rfl, HX, hb⟩; have HBn := Lib.hid (below_step (w := w) (by repeat (first | (with_reducible first | exact HB.out | apply below_alloc | apply pw_below_drewN | apply below_drew) | exact HB.out)) hb); clear HB; have HB := HBn; clear HBn hb; clear _t tA)
        | (go_at_call 10; (with_reducible refine (HSP.out _ _ _ ?hX).mono ?_); (case hX => exact (by (with_reducible repeat (first | apply HasW.alloc | apply HasW.drewN | apply HasW.drew)); exact HX.out)); rintro e w3 ⟨rfl, hb⟩; clear HX; have HBn := Lib.hid (below_step (w := w) (by repeat (first | (with_reducible first | exact HB.out | apply below_alloc | apply pw_below_drewN | apply below_drew) | exact HB.out)) hb); clear HB; have HB := HBn; clear HBn hb; clear tB)
        | ((with_reducible refine wpList_store_row rfl 24 (.tmp 6) (.tmp 21) rfl _ cs ?hx ?hy 24 _ (blk_new _ _) ?hi ?ho HON.out.2 ?_); (case hx => rfl); (case hy => rfl); (case hi => rw [HON.out.1]; exact info24); (case ho => rw [HON.out.1]; rfl); rw [World.setRow_alloc_new]; have B6 : Hid ((w3.alloc (.cells cs 24)).heap[w3.heap.size]? = some (.cells cs 24 (0, 0))) := Lib.hid (blk_new _ _); have HBn := Lib.hid (below_alloc HB.out (.cells cs 24)); clear HB; have HB := HBn; clear HBn; generalize w3.alloc (.cells cs 24) = w3n at HB B6 ⊢)
        | (go_at_call 11; have _t := tC; (with_reducible refine (HT.out _ ?hW).mono ?_); (case hW => repeat (first | (with_reducible first | exact HB.out | apply below_alloc | apply pw_below_drewN | apply below_drew) | exact HB.out)); rintro e w4 ⟨B, d, rfl, HX, hb⟩; have HBn := Lib.hid (below_step (w := w) (by repeat (first | (with_reducible first | exact HB.out | apply below_alloc | apply pw_below_drewN | apply below_drew) | exact HB.out)) hb); have B6n := Lib.hid (blk_below (by (with_reducible repeat (first | refine blk_drewN ?_ _ | refine blk_drew ?_ | refine blk_alloc ?_ _)); exact B6.out) hb); clear B6; have B6 := B6n; clear B6n; clear HB; have HB := HBn; clear HBn hb; clear _t tC)
        | (go_at_call 12; (with_reducible refine (HIM.out _ _ _ ?hX).mono ?_); (case hX => exact (by (with_reducible repeat (first | apply HasW.alloc | apply HasW.drewN | apply HasW.drew)); exact HX.out)); rintro e w5 ⟨rfl, hb⟩; have HBn := Lib.hid (below_step (w := w) (by repeat (first | (with_reducible first | exact HB.out | apply below_alloc | apply pw_below_drewN | apply below_drew) | exact HB.out)) hb); have B6n := Lib.hid (blk_below (by (with_reducible repeat (first | refine blk_drewN ?_ _ | refine blk_drew ?_ | refine blk_alloc ?_ _)); exact B6.out) hb); clear B6; have B6 := B6n; clear B6n; have HXn := Lib.hid (HasW.below (by (with_reducible repeat (first | apply HasW.alloc | apply HasW.drewN | apply HasW.drew)); exact HX.out) hb); clear HX; have HX := HXn; clear HXn; clear HB; have HB := HBn; clear HBn hb)
        | ((with_reducible refine wpList_store_row rfl 24 (.tmp 9) (.tmp 29) rfl _ cs ?hx ?hy 24 _ (blk_new _ _) ?hi ?ho HON.out.2 ?_); (case hx => rfl); (case hy => rfl); (case hi => rw [HON.out.1]; exact info24); (case ho => rw [HON.out.1]; rfl); rw [World.setRow_alloc_new]; have B9 : Hid ((w5.alloc (.cells cs 24)).heap[w5.heap.size]? = some (.cells cs 24 (0, 0))) := Lib.hid (blk_new _ _); have HBn := Lib.hid (below_alloc HB.out (.cells cs 24)); clear HB; have HB := HBn; clear HBn; have B6n := Lib.hid (blk_alloc B6.out (.cells cs 24)); clear B6; have B6 := B6n; clear B6n; have HXn := Lib.hid (HasW.alloc HX.out (.cells cs 24)); clear HX; have HX := HXn; clear HXn; generalize w5.alloc (.cells cs 24) = w5n at HB B9 B6 HX ⊢)
        | ((with_reducible refine wpList_load_row rfl 24 (.tmp 9) rfl (w5.heap.size) ?hx 24 cs (0, 0) _ ?hB Try.underlying24 rfl ?hi ?_); (case hx => rfl); (case hB => (with_reducible repeat (first | refine blk_drewN ?_ _ | refine blk_drew ?_ | refine blk_alloc ?_ _)); exact B9.out); (case hi => rw [HON.out.1]; exact info24))
        | ((with_reducible refine wpList_load_row rfl 24 (.tmp 6) rfl (w3.heap.size) ?hx 24 cs (0, 0) _ ?hB Try.underlying24 rfl ?hi ?_); (case hx => rfl); (case hB => (with_reducible repeat (first | refine blk_drewN ?_ _ | refine blk_drew ?_ | refine blk_alloc ?_ _)); exact B6.out); (case hi => rw [HON.out.1]; exact info24))
        | (go_at_call 13; (with_reducible refine (HE8.out _).mono ?_); rintro e w6 ⟨rfl, hb⟩; have HBn := Lib.hid (below_step (w := w) (by repeat (first | (with_reducible first | exact HB.out | apply below_alloc | apply pw_below_drewN | apply below_drew) | exact HB.out)) hb); have HXn := Lib.hid (HasW.below (by (with_reducible repeat (first | apply HasW.alloc | apply HasW.drewN | apply HasW.drew)); exact HX.out) hb); clear HX; have HX := HXn; clear HXn; clear HB; have HB := HBn; clear HBn hb)
        | (go_at_call 11; have _t := tD; (with_reducible refine (HT.out _ ?hW).mono ?_); (case hW => repeat (first | (with_reducible first | exact HB.out | apply below_alloc | apply pw_below_drewN | apply below_drew) | exact HB.out)); rintro e w7 ⟨B', d', rfl, HY, hb⟩; have HBn := Lib.hid (below_step (w := w) (by repeat (first | (with_reducible first | exact HB.out | apply below_alloc | apply pw_below_drewN | apply below_drew) | exact HB.out)) hb); have HXn := Lib.hid (HasW.below (by (with_reducible repeat (first | apply HasW.alloc | apply HasW.drewN | apply HasW.drew)); exact HX.out) hb); clear HX; have HX := HXn; clear HXn; clear HB; have HB := HBn; clear HBn hb; clear _t tD)
        | (go_at_call 14; (with_reducible refine (HEQ.out _ _ _ _ _ ?hX ?hY).mono ?_); (case hX => exact (by (with_reducible repeat (first | apply HasW.alloc | apply HasW.drewN | apply HasW.drew)); exact HX.out)); (case hY => exact (by (with_reducible repeat (first | apply HasW.alloc | apply HasW.drewN | apply HasW.drew)); exact HY.out)); rintro e w8 ⟨rfl, ⟨m8, rfl⟩⟩))
      go_ret
      exact ⟨rfl, by repeat (first | (with_reducible first | exact HB.out | apply below_alloc | apply pw_below_drewN | apply below_drew) | exact HB.out)⟩

end Go.Proofs.Ytabdpdnofljkcaa.Given
