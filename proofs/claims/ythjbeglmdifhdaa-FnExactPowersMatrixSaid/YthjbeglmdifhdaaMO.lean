/- Walks of functions that the print does not take. -/
import Derived.Lib.SmallJoins
import Derived.Deep.Strs
import Derived.Deep.Slices
import Derived.ChangeSlices
import Derived.OpenShut
import Derived.ChangeOld
import Derived.Test.YthjbeglmdifhdaaProg
import Derived.Below
import Derived.Deep.Draws
import Derived.Deep.AppendLies
import Derived.Maps.AppendAt
import Derived.OwnWalk
import Derived.Laws.BytesArg
import Derived.Laws.MakeOwn
import Derived.Laws.OwnMore
import Derived.Deep.OwnRows
import Derived.Tactics
import Derived.Lib.ConvBytes
import Derived.Laws.Slices
import Derived.WalkKit
import Derived.KernelRfl
import Derived.RowKit3
import Derived.Deep.LoopGhost
import Derived.Deep.QuietTactic
import Derived.BigQuiet
import Derived.WideLaws
import Derived.Deep.DeepCutAuto
import Derived.Deep.CutBlock
import Derived.Deep.RegionHeld3
import Derived.Laws.Rows
import Derived.Lib.AppendStr
import Derived.ArgAppend
import Derived.Laws.IdiomCopy
import Derived.OrdersHeld
import Derived.Laws.BitsLemmas
import Derived.RowKit
import Derived.Lib.Hide
import Derived.WalkSpells
import Derived.Test.YthjbeglmdifhdaaWWords
import Derived.Test.YthjbeglmdifhdaaWLast
import Derived.Test.YthjbeglmdifhdaaWTab
import Derived.Test.YthjbeglmdifhdaaWFour
import Derived.Test.YthjbeglmdifhdaaWQPut
import Derived.Test.YthjbeglmdifhdaaWApart
import Derived.Test.YthjbeglmdifhdaaWArr
import Derived.Test.YthjbeglmdifhdaaWZeros
import Derived.Test.YthjbeglmdifhdaaWFoot
import Derived.Test.YthjbeglmdifhdaaWKept
import Derived.Test.YthjbeglmdifhdaaWShare
import Derived.Test.YthjbeglmdifhdaaWN
import Derived.Test.YthjbeglmdifhdaaWFootNe
import Derived.Test.YthjbeglmdifhdaaWAt
import Derived.Test.YthjbeglmdifhdaaWEqStruct
import Derived.Test.YthjbeglmdifhdaaWRepsOne
import Derived.Test.YthjbeglmdifhdaaWInv
import Derived.Test.YthjbeglmdifhdaaWInvWords
import Derived.Test.YthjbeglmdifhdaaWGuard
import Derived.Test.YthjbeglmdifhdaaWNEv
import Derived.Test.YthjbeglmdifhdaaWMore
import Derived.Test.YthjbeglmdifhdaaN1
import Derived.Test.YthjbeglmdifhdaaME
namespace Go.Proofs.Ythjbeglmdifhdaa.Given
open Go.RowKit Go.Proofs.YthjbeglmdifhdaaW.PrintWords Go.Proofs.YthjbeglmdifhdaaW.PrintLast Go.Proofs.YthjbeglmdifhdaaW.PrintMore Go.Proofs.Ythjbeglmdifhdaa.NimF Go.Proofs.Ythjbeglmdifhdaa.NimGo
set_option linter.unusedVariables false
set_option linter.unusedSimpArgs false
set_option maxRecDepth 100000
open Go.ChangeShapes Go.WideShapes Go.ChangeAt Go.Deep Go.Joins
theorem w16_of {n : Int} (h : (Lit.int .u16 n).wf = true) : w16 n := by
  simp [Lit.wf, IntKind.min, IntKind.max, IntKind.signed, IntKind.bits] at h
  exact ⟨by omega, by omega⟩
theorem cells_u16 (cs : List Value) (h : ∀ i, i < cs.length → ∃ n, (cs.drop i).take 1 = [Value.int .u16 n] ∧ w16 n) : ∃ l, cs = U l ∧ W16 l := by
  induction cs with
  | nil => exact ⟨[], rfl, fun x hx => by cases hx⟩
  | cons v cs ih =>
    obtain ⟨n, e, hn⟩ := h 0 (by simp)
    simp at e
    obtain ⟨l, rfl, hl⟩ := ih (fun i hi => by have := h (i + 1) (by simpa using hi); simpa using this)
    subst e
    exact ⟨n :: l, rfl, fun x hx => by rcases List.mem_cons.1 hx with rfl | hx; exact hn; exact hl x hx⟩
theorem rows_u16 (m : Nat) (cs : List Value) (hl : cs.length = m * 6) (h : ∀ i, i < m → ∃ l, (cs.drop (i * 6)).take 6 = U l ∧ W16 l) : ∃ l, cs = U l ∧ W16 l := by
  induction m generalizing cs with
  | zero => exact ⟨[], List.length_eq_zero_iff.1 (by omega), fun x hx => by cases hx⟩
  | succ m ih =>
    obtain ⟨l0, e0, h0⟩ := h 0 (by omega)
    obtain ⟨l1, e1, h1⟩ := ih (cs.drop 6) (by rw [List.length_drop]; omega) (fun i hi => by
      have := h (i + 1) (by omega)
      rw [List.drop_drop, show 6 + i * 6 = (i + 1) * 6 by omega]; exact this)
    refine ⟨l0 ++ l1, ?_, fun x hx => by rcases List.mem_append.1 hx with hx | hx; exact h0 x hx; exact h1 x hx⟩
    rw [← U_append, ← e0, ← e1, Nat.zero_mul, List.drop_zero, List.take_append_drop]
section
variable {H : Type} {enc : TypeId × Value → H} {W : World} {base b0 fuel : Nat} {held : Bool} {sp : Nat → Bool}
theorem open_six {cs : List Value} {y : DataW H × List MemPlace} (h : DataW.trod enc Try.prog W base sp held fuel 37 cs = some y) : ∃ l, cs = U l ∧ l.length = 6 ∧ W16 l := by
  obtain ⟨xs, m, _, _, hl, hx, hi⟩ := DataW.trod_array Try.underlying37 h
  have c37 : Try.prog.cellsOf 37 = 6 := by kernel_rfl
  have c24 : Try.prog.cellsOf 24 = 1 := by kernel_rfl
  rw [c37] at hl
  simp only [c24] at hi
  obtain ⟨l, rfl, hw⟩ := cells_u16 cs (fun i h => by
    have := hi i (by omega)
    rw [List.getElem?_eq_getElem (by omega), Nat.mul_one] at this
    obtain ⟨n, e, _, hn⟩ := DataW.trod_int Try.underlying24 this
    exact ⟨n, e, w16_of hn⟩)
  exact ⟨l, rfl, by rw [U_length] at hl; exact hl, hw⟩
theorem open_sixes {cs : List Value} {y : DataW H × List MemPlace} (h : DataW.trod enc Try.prog W base sp held fuel 38 cs = some y) : ∃ l, cs = U l ∧ l.length = 36 ∧ W16 l := by
  obtain ⟨xs, m, _, _, hl, hx, hi⟩ := DataW.trod_array Try.underlying38 h
  have c38 : Try.prog.cellsOf 38 = 36 := by kernel_rfl
  have c37 : Try.prog.cellsOf 37 = 6 := by kernel_rfl
  rw [c38] at hl
  simp only [c37] at hi
  obtain ⟨l, rfl, hw⟩ := rows_u16 6 cs hl (fun i h => by
    have := hi i h
    rw [List.getElem?_eq_getElem (by omega)] at this
    obtain ⟨l, e, _, hn⟩ := open_six this
    exact ⟨l, e, hn⟩)
  exact ⟨l, rfl, by rw [U_length] at hl; exact hl, hw⟩
/-- a matrix that came in -/
theorem open_mat {r : Reach} {v : Value} {d : DataW H} {p : List MemPlace} (hv : Value.okWide Try.prog W r b0 40 v) (h : DataW.Trod enc Try.prog W base sp held 40 v d p) :
    ∃ (a c : Int) (l : List Int), v = .agg (M a c l).toArray ∧ l.length = 36 ∧ -128 ≤ a ∧ a ≤ 127 ∧ -128 ≤ c ∧ c ≤ 127 ∧ W16 l := by
  obtain ⟨cs, rfl, hsz⟩ := okWide_struct Try.underlying40 hv
  have c40 : Try.prog.cellsOf 40 = 38 := by kernel_rfl
  have c38 : Try.prog.cellsOf 38 = 36 := by kernel_rfl
  have c23 : Try.prog.cellsOf 23 = 1 := by kernel_rfl
  rw [c40] at hsz
  obtain ⟨fuel, hf⟩ := h
  obtain ⟨y0, y1, y2, n, hx, hl, h0, h1, h2⟩ := trod_struct3 Try.underlying40 hf
  simp only [c38, c23] at h0 h1 h2
  obtain ⟨a, ea, _, ha⟩ := DataW.trod_int Try.underlying23 h0
  obtain ⟨c, ec, _, hc⟩ := DataW.trod_int Try.underlying23 h1
  obtain ⟨l, el, hl36, hw⟩ := open_sixes h2
  have hba := bounds_i8 ha
  have hbc := bounds_i8 hc
  refine ⟨a, c, l, ?_, hl36, hba.1, hba.2, hbc.1, hbc.2, hw⟩
  obtain ⟨L⟩ := cs
  have hL : L.length = 38 := by simpa using hsz
  match L, hL with
  | u :: v :: L, hL =>
    simp [Value.cells] at ea ec el
    have : L.take 36 = L := List.take_of_length_le (by simp at hL; omega)
    rw [this] at el
    subst ea ec el
    rfl
/-- a vector that came in -/
theorem open_vec {r : Reach} {v : Value} {d : DataW H} {p : List MemPlace} (hv : Value.okWide Try.prog W r b0 37 v) (h : DataW.Trod enc Try.prog W base sp held 37 v d p) :
    ∃ (l : List Int), v = .agg (U l).toArray ∧ l.length = 6 ∧ W16 l := by
  unfold Value.okWide at hv
  rw [Try.underlying37] at hv
  obtain ⟨cs, rfl, hsz, _⟩ := hv
  obtain ⟨fuel, hf⟩ := h
  obtain ⟨l, e, hl, hw⟩ := open_six hf
  refine ⟨l, ?_, hl, hw⟩
  obtain ⟨L⟩ := cs
  simp [Value.cells] at e
  subst e
  rfl
end

end Go.Proofs.Ythjbeglmdifhdaa.Given
