/- Walks of functions that the print does not take. -/
import Derived.Test.YtabdpdnofljkcaaProg
import Derived.Below
import Derived.Deep.Draws
import Derived.Deep.AppendLies
import Derived.Maps.AppendAt
import Derived.OwnWalk
import Derived.Laws.BytesArg
import Derived.Laws.MakeOwn
import Derived.Laws.OwnMore
import Derived.Deep.OwnRows
import Derived.Tactics
import Derived.Lib.ConvBytes
import Derived.Laws.Slices
import Derived.WalkKit
import Derived.KernelRfl
import Derived.RowKit3
import Derived.Deep.LoopGhost
import Derived.Deep.QuietTactic
import Derived.BigQuiet
import Derived.WideLaws
import Derived.Deep.DeepCutAuto
import Derived.Deep.CutBlock
import Derived.Deep.RegionHeld3
import Derived.Laws.Rows
import Derived.Lib.AppendStr
import Derived.ArgAppend
import Derived.Laws.IdiomCopy
import Derived.OrdersHeld
import Derived.Laws.BitsLemmas
import Derived.RowKit
import Derived.Lib.Hide
import Derived.WalkSpells
import Derived.Test.YtabdpdnofljkcaaWWords
import Derived.Test.YtabdpdnofljkcaaWLast
import Derived.Test.YtabdpdnofljkcaaWTab
import Derived.Test.YtabdpdnofljkcaaWFour
import Derived.Test.YtabdpdnofljkcaaWQPut
import Derived.Test.YtabdpdnofljkcaaWApart
import Derived.Test.YtabdpdnofljkcaaWArr
import Derived.Test.YtabdpdnofljkcaaWZeros
import Derived.Test.YtabdpdnofljkcaaWFoot
import Derived.Test.YtabdpdnofljkcaaWKept
import Derived.Test.YtabdpdnofljkcaaWShare
import Derived.Test.YtabdpdnofljkcaaWN
import Derived.Test.YtabdpdnofljkcaaWFootNe
import Derived.Test.YtabdpdnofljkcaaWAt
import Derived.Test.YtabdpdnofljkcaaWEqStruct
import Derived.Test.YtabdpdnofljkcaaWRepsOne
import Derived.Test.YtabdpdnofljkcaaWInv
import Derived.Test.YtabdpdnofljkcaaWInvWords
import Derived.Test.YtabdpdnofljkcaaWGuard
import Derived.Test.YtabdpdnofljkcaaWNEv
import Derived.Test.YtabdpdnofljkcaaWMore
import Derived.Test.YtabdpdnofljkcaaN1
namespace Go.Proofs.Ytabdpdnofljkcaa.Given
open Go.RowKit Go.Proofs.YtabdpdnofljkcaaW.PrintWords Go.Proofs.YtabdpdnofljkcaaW.PrintLast Go.Proofs.YtabdpdnofljkcaaW.PrintMore Go.Proofs.Ytabdpdnofljkcaa.NimF Go.Proofs.Ytabdpdnofljkcaa.NimGo
set_option linter.unusedVariables false
set_option linter.unusedSimpArgs false
/-- what rows that came in read as -/
def rowsOf (L : Nat → Nat) (Z : Nat → List Int) (n : Nat) : List (List Int) := (List.range n).map fun r => (Z r).take (L r)
theorem rowsOf_length (L : Nat → Nat) (Z : Nat → List Int) (n : Nat) : (rowsOf L Z n).length = n := by simp [rowsOf]
theorem rowsOf_get {L : Nat → Nat} {Z : Nat → List Int} {n j : Nat} {p : List Int} (h : (rowsOf L Z n)[j]? = some p) : j < n ∧ p = (Z j).take (L j) := by
  unfold rowsOf at h
  rw [List.getElem?_map] at h
  rcases Nat.lt_or_ge j n with hj | hj
  · rw [List.getElem?_range hj] at h
    exact ⟨hj, (Option.some.inj h).symm⟩
  · rw [List.getElem?_eq_none (by simpa using hj)] at h
    cases h
/-- the facts of rows that came in, as the walks want them -/
def IsRows (k : IntKind) (w : World) (a : Option Addr) (len cap : Nat) (l : List (List Int)) : Prop :=
  len ≤ maxLen ∧ len ≤ cap ∧ (∀ x ∈ l, x.length ≤ maxLen ∧ ∀ n ∈ x, (Lit.int k n).wf = true) ∧ l.length = len ∧ ∀ e, Kd.C (Kd.slice e (Kd.int k)) w a len l
theorem isRows_nil (k : IntKind) (w : World) : IsRows k w none 0 0 [] :=
  ⟨Nat.zero_le _, Nat.le_refl _, by simp, rfl, fun e => ⟨rfl, by omega, fun h => absurd h (by omega)⟩⟩
theorem isRows_of {k : IntKind} {w : World} {a : Addr} {len cap : Nat} {A : Nat → Option Addr} {L C : Nat → Nat} {Z : Nat → List Int} (hl : len ≤ cap) (hm : cap ≤ maxLen)
    (h : ∀ r, r < cap → w.cell? (a.add r) = some (.slice (A r) (L r) (C r)) ∧ L r ≤ C r ∧ C r ≤ maxLen ∧ (Z r).length = C r ∧ (∀ n ∈ Z r, (Lit.int k n).wf = true) ∧ (A r = none → C r = 0) ∧
        ∀ a', A r = some a' → 0 ≤ a'.block ∧ ∀ c, c < C r → w.cell? (a'.add c) = some (.int k ((Z r).getD c 0))) : IsRows k w (some a) len cap (rowsOf L Z len) := by
  have hmx : maxLen ≤ 9223372036854775807 := by decide
  refine ⟨by omega, hl, fun x hx => ?_, rowsOf_length _ _ _, fun e => ⟨rowsOf_length _ _ _, by omega, fun _ => ⟨a, rfl, fun j p hj => ?_⟩⟩⟩
  · obtain ⟨j, hj⟩ := List.mem_iff_getElem?.1 hx
    obtain ⟨hjn, rfl⟩ := rowsOf_get hj
    obtain ⟨_, h2, h3, h4, h5, _, _⟩ := h j (by omega)
    exact ⟨by rw [List.length_take]; omega, fun n hn => h5 n (List.mem_of_mem_take hn)⟩
  · obtain ⟨hjn, rfl⟩ := rowsOf_get hj
    obtain ⟨h1, h2, h3, h4, h5, h6, h7⟩ := h j (by omega)
    have hlen : ((Z j).take (L j)).length = L j := by rw [List.length_take]; omega
    refine ⟨[.slice (A j) (L j) (C j)], rfl, ⟨A j, C j, by rw [hlen], by omega, ⟨rfl, by omega, fun h0 => ?_⟩⟩, fun i u hi => ?_⟩
    · rw [hlen] at h0
      cases hA : A j with
      | none => have := h6 hA; omega
      | some a' =>
        refine ⟨a', rfl, fun c x hc => ⟨[.int k x], rfl, rfl, fun i u hi => ?_⟩⟩
        have hi0 : i = 0 := by
          rcases i with _ | i
          · rfl
          · simp at hi
        subst hi0
        simp at hi
        subst hi
        rw [List.getElem?_take] at hc
        have hcl : c < L j := by
          rcases Nat.lt_or_ge c (L j) with h | h
          · exact h
          · rw [if_neg (by omega)] at hc; cases hc
        rw [if_pos hcl] at hc
        have := (h7 a' hA).2 c (by omega)
        rw [List.getD_eq_getElem?_getD, hc] at this
        show w.cell? (a'.add (c * 1 + 0)) = _
        rw [Nat.mul_one, Nat.add_zero]
        simpa using this
    · have hi0 : i = 0 := by
        rcases i with _ | i
        · rfl
        · simp at hi
      subst hi0
      simp at hi
      subst hi
      have : j * (Kd.slice e (Kd.int k)).sz + 0 = j := by show j * 1 + 0 = j; omega
      rw [this]; exact h1
/-- the facts of a row of numbers that came in -/
def IsInts (k : IntKind) (w : World) (a : Option Addr) (len cap : Nat) (l : List Int) : Prop :=
  len ≤ maxLen ∧ len ≤ cap ∧ (∀ n ∈ l, (Lit.int k n).wf = true) ∧ l.length = len ∧ Kd.C (Kd.int k) w a len l
theorem isInts_nil (k : IntKind) (w : World) : IsInts k w none 0 0 [] :=
  ⟨Nat.zero_le _, Nat.le_refl _, by simp, rfl, ⟨rfl, by omega, fun h => absurd h (by omega)⟩⟩
theorem isInts_of {k : IntKind} {w : World} {a : Addr} {len cap : Nat} {zs : List Int} (hl : len ≤ cap) (hm : cap ≤ maxLen) (hz : zs.length = cap)
    (hcell : ∀ i, i < zs.length → w.cell? (a.add i) = some (.int k (zs.getD i 0))) (hw : ∀ n ∈ zs, (Lit.int k n).wf = true) : IsInts k w (some a) len cap (zs.take len) := by
  have hmx : maxLen ≤ 9223372036854775807 := by decide
  have hlen : (zs.take len).length = len := by rw [List.length_take]; omega
  refine ⟨by omega, hl, fun n hn => hw n (List.mem_of_mem_take hn), hlen, ⟨hlen, by omega, fun _ => ⟨a, rfl, fun c x hc => ⟨[.int k x], rfl, rfl, fun i u hi => ?_⟩⟩⟩⟩
  have hi0 : i = 0 := by
    rcases i with _ | i
    · rfl
    · simp at hi
  subst hi0
  simp at hi
  subst hi
  rw [List.getElem?_take] at hc
  have hcl : c < len := by
    rcases Nat.lt_or_ge c len with h | h
    · exact h
    · rw [if_neg (by omega)] at hc; cases hc
  rw [if_pos hcl] at hc
  have := hcell c (by omega)
  rw [List.getD_eq_getElem?_getD, hc] at this
  show w.cell? (a.add (c * 1 + 0)) = _
  rw [Nat.mul_one, Nat.add_zero]
  simpa using this

end Go.Proofs.Ytabdpdnofljkcaa.Given
