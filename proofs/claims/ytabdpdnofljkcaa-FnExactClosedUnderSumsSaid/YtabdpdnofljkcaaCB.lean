/- A word is made a key: walked. -/
import Derived.Test.YtabdpdnofljkcaaProg
import Derived.Below
import Derived.Deep.Draws
import Derived.Deep.AppendLies
import Derived.Maps.AppendAt
import Derived.OwnWalk
import Derived.Laws.BytesArg
import Derived.Laws.MakeOwn
import Derived.Laws.OwnMore
import Derived.Deep.OwnRows
import Derived.Tactics
import Derived.Lib.ConvBytes
import Derived.Laws.Slices
import Derived.WalkKit
import Derived.KernelRfl
import Derived.RowKit3
import Derived.Deep.LoopGhost
import Derived.Deep.QuietTactic
import Derived.BigQuiet
import Derived.WideLaws
import Derived.Deep.DeepCutAuto
import Derived.Deep.CutBlock
import Derived.Deep.RegionHeld3
import Derived.Laws.Rows
import Derived.Lib.AppendStr
import Derived.ArgAppend
import Derived.Laws.IdiomCopy
import Derived.OrdersHeld
import Derived.Laws.BitsLemmas
import Derived.RowKit
import Derived.Lib.Hide
import Derived.WalkSpells
import Derived.Test.YtabdpdnofljkcaaWWords
import Derived.Test.YtabdpdnofljkcaaWLast
import Derived.Test.YtabdpdnofljkcaaWTab
import Derived.Test.YtabdpdnofljkcaaWFour
import Derived.Test.YtabdpdnofljkcaaWQPut
import Derived.Test.YtabdpdnofljkcaaWApart
import Derived.Test.YtabdpdnofljkcaaWArr
import Derived.Test.YtabdpdnofljkcaaWZeros
import Derived.Test.YtabdpdnofljkcaaWFoot
import Derived.Test.YtabdpdnofljkcaaWKept
import Derived.Test.YtabdpdnofljkcaaWShare
import Derived.Test.YtabdpdnofljkcaaWN
import Derived.Test.YtabdpdnofljkcaaWFootNe
import Derived.Test.YtabdpdnofljkcaaWAt
import Derived.Test.YtabdpdnofljkcaaWEqStruct
import Derived.Test.YtabdpdnofljkcaaWRepsOne
import Derived.Test.YtabdpdnofljkcaaWInv
import Derived.Test.YtabdpdnofljkcaaWInvWords
import Derived.Test.YtabdpdnofljkcaaWGuard
import Derived.Test.YtabdpdnofljkcaaWNEv
import Derived.Test.YtabdpdnofljkcaaWMore
import Derived.Test.YtabdpdnofljkcaaN1
import Derived.Test.YtabdpdnofljkcaaCA
import Derived.Lib.SmallJoins
import Derived.Laws.CopyOwn
import Derived.Laws.Rows
import Derived.Laws.Tables
namespace Go.Proofs.Ytabdpdnofljkcaa.Given
open Go.RowKit Go.Proofs.YtabdpdnofljkcaaW.PrintWords Go.Proofs.YtabdpdnofljkcaaW.PrintLast Go.Proofs.YtabdpdnofljkcaaW.PrintMore Go.Proofs.Ytabdpdnofljkcaa.NimF Go.Proofs.Ytabdpdnofljkcaa.NimGo
set_option linter.unusedVariables false
set_option linter.unusedSimpArgs false
open Go.Proofs.Ytabdpdnofljkcaa.NimF
open Go.Proofs.Ytabdpdnofljkcaa.NimGo
theorem info69 : (Try.prog.info? 69).map (·.size) = some 7 := by kernel_rfl
theorem info64 : (Try.prog.info? 64).map (·.size) = some 1 := by kernel_rfl
abbrev Z7 : Array Value := #[.int .u16 0, .int .u16 0, .int .u16 0, .int .u16 0, .int .u16 0, .int .u16 0, .int .u16 0]
theorem splice_pad {x : List Int} (h7 : x.length ≤ 7) : splice Z7.toList 0 (U16 x) = U16 (pad x) := by
  unfold splice pad U16
  match x, h7 with
  | [], _ => rfl
  | [a], _ => rfl
  | [a, b], _ => rfl
  | [a, b, c], _ => rfl
  | [a, b, c, d], _ => rfl
  | [a, b, c, d, e], _ => rfl
  | [a, b, c, d, e, f], _ => rfl
  | [a, b, c, d, e, f, g], _ => rfl
theorem U16_one (x : List Int) : ∀ v ∈ U16 x, v.oneCell' = true := by
  intro v hv
  obtain ⟨n, _, rfl⟩ := List.mem_map.1 hv
  rfl
theorem C_cells {W : World} {A : Option Addr} {x : List Int} (h : Kd.C (Kd.int .u16) W A x.length x) (h0 : 0 < x.length) : ∃ ad, A = some ad ∧ ∀ (j : Nat) (v : Value), (U16 x)[j]? = some v → W.cell? (ad.add j) = some v := by
  obtain ⟨ad, e, hc⟩ := h.2.2 h0
  refine ⟨ad, e, fun j v hv => ?_⟩
  unfold U16 at hv
  rw [List.getElem?_map] at hv
  cases hx : x[j]? with
  | none => rw [hx] at hv; cases hv
  | some n =>
    rw [hx] at hv
    obtain rfl : Value.int .u16 n = v := by simpa using hv
    obtain ⟨ad2, e2, h2⟩ := Kd.at_int h (j : Int) (by omega) (by have := (List.getElem?_eq_some_iff.1 hx).1; omega)
    rw [e] at e2
    injection e2 with e2
    subst e2
    rw [rd_nat, Int.toNat_natCast, List.getD_eq_getElem?_getD, hx] at h2
    exact h2
set_option maxHeartbeats 2000000 in
set_option maxRecDepth 100000 in
theorem key_calls (A0 : Option Addr) (c0 : Nat) (x : List Int) (w : World) (hr : Kd.C (Kd.int .u16) w A0 x.length x) (h7 : x.length ≤ 7) :
    Calls Try.prog 54 #[.slice A0 x.length c0] w fun e w' => e = .returned (keyv x) ∧ Below w.heap.size w w' := by
  have HR := Lib.hid hr
  have H7 := Lib.hid h7
  clear hr h7
  have hi7 : (Try.prog.info? 69).map (·.size) = some (U16 (pad x)).toArray.size := by rw [info69]; simp [U16, pad_length]
  have HI7 := Lib.hid hi7
  have HU1 : Hid ((U16 (pad x)).toArray.all (·.oneCell') = true) := Lib.hid (by rw [Array.all_eq_true_iff_forall_mem]; intro v hv; exact U16_one (pad x) v (by simpa using hv))
  have HZS : Hid (Z7.size = (U16 (pad x)).toArray.size) := Lib.hid (by simp [U16, pad_length])
  clear hi7
  have HBB : Hid (Below w.heap.size w ((w.alloc (.cells Z7 69)).alloc (.cells Z7 69))) := Lib.hid (below_alloc (below_alloc (Below.refl _ _) _) _)
  have HB1 : Hid (((w.alloc (.cells Z7 69)).alloc (.cells Z7 69)).heap[w.heap.size]? = some (.cells Z7 69 (0, 0))) := Lib.hid (by rw [(below_alloc (Below.refl (w.alloc (.cells Z7 69)).heap.size (w.alloc (.cells Z7 69))) (.cells Z7 69)).block _ (by simp)]; exact heap_alloc_new _ _)
  have HB2 : Hid (((w.alloc (.cells Z7 69)).alloc (.cells Z7 69)).heap[w.heap.size + 1]? = some (.cells Z7 69 (0, 0))) := Lib.hid (by have := heap_alloc_new (w.alloc (.cells Z7 69)) (.cells Z7 69); rw [show (w.alloc (.cells Z7 69)).heap.size = w.heap.size + 1 by simp] at this; exact this)
  have HZ1 : Hid (Z7.all (·.oneCell') = true) := Lib.hid (by kernel_rfl)
  have HR2 := Lib.hid (Kd.C_below HR.out HBB.out)
  have HSE : Hid (((w.alloc (.cells Z7 69)).alloc (.cells Z7 69)).setRow (w.heap.size + 1) Z7 = ((w.alloc (.cells Z7 69)).alloc (.cells Z7 69))) := Lib.hid (setRow_self _ _ _ _ _ HB2.out)
  go_enter Try.func54, Try.ntmps54
  go_wp2_with (first
    | (with_reducible refine wpList_store_row rfl 69 (.tmp 3) (.tmp 4) rfl (w.heap.size + 1) Z7 rfl rfl 69 Z7 HB2.out info69 rfl HZ1.out ?_; rw [HSE.out])
    | (with_reducible refine wpList_copy_splice rfl (.tmp 5) (.tmp 6) 41 42 rfl 64 Try.underlying41 info64 (some ⟨w.heap.size + 1, 0, none⟩) A0 7 7 x.length c0 rfl rfl (w.heap.size + 1) 0 Z7.toList 69 HB2.out (U16 x) ?hn ?hpos ?hfit (U16_one x) (w.heap.size + 1) ((w.alloc (.cells Z7 69)).alloc (.cells Z7 69)) (Below.refl _ _) (Nat.le_refl _) ?_; (case hn => simp only [U16, List.length_map]; exact (Nat.min_eq_left H7.out).symm); (case hpos => intro h0; refine ⟨rfl, C_cells HR2.out (by simpa [U16] using h0)⟩); (case hfit => simp [U16]; exact H7.out); intro W3 hb3 hB3; rw [splice_pad H7.out] at hb3; have HB3 := Lib.hid hb3; have HD3 := Lib.hid hB3; have HB4 : Hid (W3.heap[w.heap.size]? = some (.cells Z7 69 (0, 0))) := Lib.hid (by rw [hB3.block _ (Nat.lt_succ_self _)]; exact HB1.out); clear hb3 hB3)
    | (with_reducible refine wpList_load_row rfl 69 (.tmp 3) rfl (w.heap.size + 1) rfl 69 (U16 (pad x)).toArray (0, 0) _ HB3.out.out Try.underlying69 rfl HI7.out ?_)
    | (with_reducible refine wpList_store_row rfl 69 (.tmp 2) (.tmp 8) rfl w.heap.size (U16 (pad x)).toArray rfl rfl 69 Z7 HB4.out HI7.out HZS.out HU1.out ?_))
  exact bodyPost_ret (results_cell_row Try.results54 _ _ w.heap.size 69 _ (0, 0) _ rfl (setRow_heap _ _ _ _ _ _ HB4.out) Try.underlying69 rfl HI7.out) rfl ⟨rfl, below_setRow (HBB.out.trans (HD3.out.mono (by omega))) (Nat.le_refl _) _⟩

end Go.Proofs.Ytabdpdnofljkcaa.Given
