/- Walks of functions that the print does not take. -/
import Derived.Deep.WholeRow
import Derived.Test.YthjbeglmdifhdaaProg
import Derived.Below
import Derived.Deep.Draws
import Derived.Deep.AppendLies
import Derived.Maps.AppendAt
import Derived.OwnWalk
import Derived.Laws.BytesArg
import Derived.Laws.MakeOwn
import Derived.Laws.OwnMore
import Derived.Deep.OwnRows
import Derived.Tactics
import Derived.Lib.ConvBytes
import Derived.Laws.Slices
import Derived.WalkKit
import Derived.KernelRfl
import Derived.RowKit3
import Derived.Deep.LoopGhost
import Derived.Deep.QuietTactic
import Derived.BigQuiet
import Derived.WideLaws
import Derived.Deep.DeepCutAuto
import Derived.Deep.CutBlock
import Derived.Deep.RegionHeld3
import Derived.Laws.Rows
import Derived.Lib.AppendStr
import Derived.ArgAppend
import Derived.Laws.IdiomCopy
import Derived.OrdersHeld
import Derived.Laws.BitsLemmas
import Derived.RowKit
import Derived.Lib.Hide
import Derived.WalkSpells
import Derived.Test.YthjbeglmdifhdaaWWords
import Derived.Test.YthjbeglmdifhdaaWLast
import Derived.Test.YthjbeglmdifhdaaWTab
import Derived.Test.YthjbeglmdifhdaaWFour
import Derived.Test.YthjbeglmdifhdaaWQPut
import Derived.Test.YthjbeglmdifhdaaWApart
import Derived.Test.YthjbeglmdifhdaaWArr
import Derived.Test.YthjbeglmdifhdaaWZeros
import Derived.Test.YthjbeglmdifhdaaWFoot
import Derived.Test.YthjbeglmdifhdaaWKept
import Derived.Test.YthjbeglmdifhdaaWShare
import Derived.Test.YthjbeglmdifhdaaWN
import Derived.Test.YthjbeglmdifhdaaWFootNe
import Derived.Test.YthjbeglmdifhdaaWAt
import Derived.Test.YthjbeglmdifhdaaWEqStruct
import Derived.Test.YthjbeglmdifhdaaWRepsOne
import Derived.Test.YthjbeglmdifhdaaWInv
import Derived.Test.YthjbeglmdifhdaaWInvWords
import Derived.Test.YthjbeglmdifhdaaWGuard
import Derived.Test.YthjbeglmdifhdaaWNEv
import Derived.Test.YthjbeglmdifhdaaWMore
import Derived.Test.YthjbeglmdifhdaaN1
import Derived.Test.YthjbeglmdifhdaaMF
namespace Go.Proofs.Ythjbeglmdifhdaa.Given
open Go.RowKit Go.Proofs.YthjbeglmdifhdaaW.PrintWords Go.Proofs.YthjbeglmdifhdaaW.PrintLast Go.Proofs.YthjbeglmdifhdaaW.PrintMore Go.Proofs.Ythjbeglmdifhdaa.NimF Go.Proofs.Ythjbeglmdifhdaa.NimGo
set_option linter.unusedVariables false
set_option linter.unusedSimpArgs false
theorem M36 {r c : Int} {l : List Int} (hl : l.length = 36) : (M r c l).toArray.size = 38 ∧ (M r c l).toArray.all (·.oneCell') = true :=
  ⟨by rw [List.size_toArray, M_length, hl], by rw [List.all_toArray]; exact List.all_eq_true.mpr (M_one r c l)⟩
theorem scRes (r c : Int) (l : List Int) (b : Int) (hl : l.length = 36) : ∃ (R C : Int) (L : List Int) (e : Int), L.length = 36 ∧ (if okM r c l = true then Value.tuple #[.agg (M r c (l.map fun x => tm x b)).toArray, .int .i64 0] else .tuple #[.agg (M 0 0 (List.replicate 36 0)).toArray, .int .i64 1]) = .tuple #[.agg (M R C L).toArray, .int .i64 e] := by
  split
  · exact ⟨_, _, _, _, by rw [List.length_map, hl], rfl⟩
  · exact ⟨_, _, _, _, List.length_replicate, rfl⟩

set_option maxHeartbeats 8000000 in
set_option maxRecDepth 100000 in
theorem lawScale_calls (r c : Int) (l : List Int) (b : Int) (hl : l.length = 36) (h1 : -128 ≤ r) (h2 : r ≤ 127) (h3 : -128 ≤ c) (h4 : c ≤ 127) (hw : W16 l) (hb : w16 b) (w : World) :
    Calls Try.prog 4 #[.agg (M r c l).toArray, .int .u16 b] w fun e w' => e = .returned (.bool true) ∧ Below w.heap.size w w' := by
  obtain ⟨R, C, L, e0, hL, he⟩ := scRes r c l b hl
  have HS := Lib.hid (fun W => he ▸ specScale_calls r c l b hl h1 h2 h3 h4 hw hb W)
  have HI := Lib.hid (fun W => he ▸ implScale_calls r c l b hl h1 h2 h3 h4 hw hb W)
  have HT := Lib.hid (fun W => toM_calls r c l hl W)
  have HE := Lib.hid (fun W => eqM_calls R C L hL W)
  have OA := Lib.hid (M36 (r := r) (c := c) hl)
  have OC := Lib.hid (M36 (r := R) (c := C) hL)
  clear hl h1 h2 h3 h4 hw hb he hL
  generalize (M r c l).toArray = A at HS HI HT OA ⊢
  generalize (M R C L).toArray = cs at HS HI HE OC
  have HB := Lib.hid (Below.refl w.heap.size w)
  have tA : True := trivial
  have tB : True := trivial
  go_enter Try.func4, Try.ntmps4
  go_wp2_with (first
    | ((with_reducible refine gate_dst (N := 2) rfl ?_); refine box_event ?hg (N := 2) ?hd (cs := A) (t := 40) ?hr ?_; (case hd => rfl); (case hg => rfl); (case hr => rfl); intro gP hg WP hbox hb; clear hg; have HB_n := Lib.hid (below_step (w := w) (by repeat (first | (with_reducible first | exact HB.out | apply below_alloc | apply pw_below_drewN | apply below_drew) | exact HB.out)) hb); clear HB; have HB := HB_n; clear HB_n; have P := Lib.hid hbox; clear hbox hb)
    | ((with_reducible refine wpList_load_row rfl 40 (.tmp 2) rfl (gP) ?hx 40 A (0, 0) _ ?hB Try.underlying40 rfl ?hi ?_); (case hx => rfl); (case hB => exact (by (with_reducible repeat (first | refine blk_drewN ?_ _ | refine blk_drew ?_ | refine blk_alloc ?_ _)); exact P.out)); (case hi => rw [OA.out.1]; exact inf40))
    | (go_at_call 17; have _t := tA; (with_reducible refine (HT.out _).mono ?_); rintro e w1 ⟨rfl, hb⟩; have P_n := Lib.hid (blk_below (by (with_reducible repeat (first | refine blk_drewN ?_ _ | refine blk_drew ?_ | refine blk_alloc ?_ _)); exact P.out) hb); have HB_n := Lib.hid (below_step (w := w) (by repeat (first | (with_reducible first | exact HB.out | apply below_alloc | apply pw_below_drewN | apply below_drew) | exact HB.out)) hb); clear P; have P := P_n; clear P_n; clear HB; have HB := HB_n; clear HB_n; clear hb; clear _t tA)
    | (go_at_call 16; (with_reducible refine (HS.out _).mono ?_); rintro e w2 ⟨rfl, hb⟩; have P_n := Lib.hid (blk_below (by (with_reducible repeat (first | refine blk_drewN ?_ _ | refine blk_drew ?_ | refine blk_alloc ?_ _)); exact P.out) hb); have HB_n := Lib.hid (below_step (w := w) (by repeat (first | (with_reducible first | exact HB.out | apply below_alloc | apply pw_below_drewN | apply below_drew) | exact HB.out)) hb); clear P; have P := P_n; clear P_n; clear HB; have HB := HB_n; clear HB_n; clear hb)
    | ((with_reducible refine wpList_store_row rfl 29 (.tmp 5) (.tmp 14) rfl _ cs ?hx ?hy 29 _ (blk_new _ _) ?hi ?ho OC.out.2 ?_); (case hx => rfl); (case hy => rfl); (case hi => rw [OC.out.1]; exact inf29); (case ho => rw [OC.out.1]; rfl); rw [World.setRow_alloc_new]; have B5 : Hid ((w2.alloc (.cells cs 29)).heap[w2.heap.size]? = some (.cells cs 29 (0, 0))) := Lib.hid (blk_new _ _); have HB_n := Lib.hid (below_alloc HB.out (.cells cs 29)); have P_n := Lib.hid (blk_alloc P.out (.cells cs 29)); clear HB; have HB := HB_n; clear HB_n; clear P; have P := P_n; clear P_n; generalize w2.alloc (.cells cs 29) = w2n at HB B5 P ⊢)
    | (go_at_call 17; have _t := tB; (with_reducible refine (HT.out _).mono ?_); rintro e w3 ⟨rfl, hb⟩; have P_n := Lib.hid (blk_below (by (with_reducible repeat (first | refine blk_drewN ?_ _ | refine blk_drew ?_ | refine blk_alloc ?_ _)); exact P.out) hb); have B5_n := Lib.hid (blk_below (by (with_reducible repeat (first | refine blk_drewN ?_ _ | refine blk_drew ?_ | refine blk_alloc ?_ _)); exact B5.out) hb); have HB_n := Lib.hid (below_step (w := w) (by repeat (first | (with_reducible first | exact HB.out | apply below_alloc | apply pw_below_drewN | apply below_drew) | exact HB.out)) hb); clear P; have P := P_n; clear P_n; clear B5; have B5 := B5_n; clear B5_n; clear HB; have HB := HB_n; clear HB_n; clear hb; clear _t tB)
    | (go_at_call 18; (with_reducible refine (HI.out _).mono ?_); rintro e w4 ⟨rfl, hb⟩; have P_n := Lib.hid (blk_below (by (with_reducible repeat (first | refine blk_drewN ?_ _ | refine blk_drew ?_ | refine blk_alloc ?_ _)); exact P.out) hb); have B5_n := Lib.hid (blk_below (by (with_reducible repeat (first | refine blk_drewN ?_ _ | refine blk_drew ?_ | refine blk_alloc ?_ _)); exact B5.out) hb); have HB_n := Lib.hid (below_step (w := w) (by repeat (first | (with_reducible first | exact HB.out | apply below_alloc | apply pw_below_drewN | apply below_drew) | exact HB.out)) hb); clear P; have P := P_n; clear P_n; clear B5; have B5 := B5_n; clear B5_n; clear HB; have HB := HB_n; clear HB_n; clear hb)
    | ((with_reducible refine wpList_store_row rfl 29 (.tmp 7) (.tmp 21) rfl _ cs ?hx ?hy 29 _ (blk_new _ _) ?hi ?ho OC.out.2 ?_); (case hx => rfl); (case hy => rfl); (case hi => rw [OC.out.1]; exact inf29); (case ho => rw [OC.out.1]; rfl); rw [World.setRow_alloc_new]; have B7 : Hid ((w4.alloc (.cells cs 29)).heap[w4.heap.size]? = some (.cells cs 29 (0, 0))) := Lib.hid (blk_new _ _); have HB_n := Lib.hid (below_alloc HB.out (.cells cs 29)); have P_n := Lib.hid (blk_alloc P.out (.cells cs 29)); have B5_n := Lib.hid (blk_alloc B5.out (.cells cs 29)); clear HB; have HB := HB_n; clear HB_n; clear P; have P := P_n; clear P_n; clear B5; have B5 := B5_n; clear B5_n; generalize w4.alloc (.cells cs 29) = w4n at HB B7 P B5 ⊢)
    | ((with_reducible refine wpList_load_row rfl 29 (.tmp 7) rfl (w4.heap.size) ?hx 29 cs (0, 0) _ ?hB Try.underlying29 rfl ?hi ?_); (case hx => rfl); (case hB => exact (by (with_reducible repeat (first | refine blk_drewN ?_ _ | refine blk_drew ?_ | refine blk_alloc ?_ _)); exact B7.out)); (case hi => rw [OC.out.1]; exact inf29))
    | ((with_reducible refine wpList_load_row rfl 29 (.tmp 5) rfl (w2.heap.size) ?hx 29 cs (0, 0) _ ?hB Try.underlying29 rfl ?hi ?_); (case hx => rfl); (case hB => exact (by (with_reducible repeat (first | refine blk_drewN ?_ _ | refine blk_drew ?_ | refine blk_alloc ?_ _)); exact B5.out)); (case hi => rw [OC.out.1]; exact inf29))
    | (go_at_call 14; (with_reducible refine (HE.out _).mono ?_); rintro e w5 ⟨rfl, hb⟩; have HB_n := Lib.hid (below_step (w := w) (by repeat (first | (with_reducible first | exact HB.out | apply below_alloc | apply pw_below_drewN | apply below_drew) | exact HB.out)) hb); clear HB; have HB := HB_n; clear HB_n; clear hb))
  go_ret
  exact ⟨rfl, (by repeat (first | (with_reducible first | exact HB.out | apply below_alloc | apply pw_below_drewN | apply below_drew) | exact HB.out))⟩

end Go.Proofs.Ythjbeglmdifhdaa.Given
