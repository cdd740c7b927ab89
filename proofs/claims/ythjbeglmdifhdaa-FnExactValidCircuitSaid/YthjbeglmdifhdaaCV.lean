/- Walks of functions that the print does not take. -/
import Derived.Lib.SmallJoins
import Derived.Deep.Slices
import Derived.ChangeSlices
import Derived.OpenShut
import Derived.ChangeOld
import Derived.Test.YthjbeglmdifhdaaProg
import Derived.Below
import Derived.Deep.Draws
import Derived.Deep.AppendLies
import Derived.Maps.AppendAt
import Derived.OwnWalk
import Derived.Laws.BytesArg
import Derived.Laws.MakeOwn
import Derived.Laws.OwnMore
import Derived.Deep.OwnRows
import Derived.Tactics
import Derived.Lib.ConvBytes
import Derived.Laws.Slices
import Derived.WalkKit
import Derived.KernelRfl
import Derived.RowKit3
import Derived.Deep.LoopGhost
import Derived.Deep.QuietTactic
import Derived.BigQuiet
import Derived.WideLaws
import Derived.Deep.DeepCutAuto
import Derived.Deep.CutBlock
import Derived.Deep.RegionHeld3
import Derived.Laws.Rows
import Derived.Lib.AppendStr
import Derived.ArgAppend
import Derived.Laws.IdiomCopy
import Derived.OrdersHeld
import Derived.Laws.BitsLemmas
import Derived.RowKit
import Derived.Lib.Hide
import Derived.WalkSpells
import Derived.Test.YthjbeglmdifhdaaWWords
import Derived.Test.YthjbeglmdifhdaaWLast
import Derived.Test.YthjbeglmdifhdaaWTab
import Derived.Test.YthjbeglmdifhdaaWFour
import Derived.Test.YthjbeglmdifhdaaWQPut
import Derived.Test.YthjbeglmdifhdaaWApart
import Derived.Test.YthjbeglmdifhdaaWArr
import Derived.Test.YthjbeglmdifhdaaWZeros
import Derived.Test.YthjbeglmdifhdaaWFoot
import Derived.Test.YthjbeglmdifhdaaWKept
import Derived.Test.YthjbeglmdifhdaaWShare
import Derived.Test.YthjbeglmdifhdaaWN
import Derived.Test.YthjbeglmdifhdaaWFootNe
import Derived.Test.YthjbeglmdifhdaaWAt
import Derived.Test.YthjbeglmdifhdaaWEqStruct
import Derived.Test.YthjbeglmdifhdaaWRepsOne
import Derived.Test.YthjbeglmdifhdaaWInv
import Derived.Test.YthjbeglmdifhdaaWInvWords
import Derived.Test.YthjbeglmdifhdaaWGuard
import Derived.Test.YthjbeglmdifhdaaWNEv
import Derived.Test.YthjbeglmdifhdaaWMore
import Derived.Test.YthjbeglmdifhdaaN1
import Derived.Test.YthjbeglmdifhdaaL0
import Derived.Test.YthjbeglmdifhdaaRFnExactValidCircuitx1
namespace Go.Proofs.Ythjbeglmdifhdaa.Given
open Go.RowKit Go.Proofs.YthjbeglmdifhdaaW.PrintWords Go.Proofs.YthjbeglmdifhdaaW.PrintLast Go.Proofs.YthjbeglmdifhdaaW.PrintMore Go.Proofs.Ythjbeglmdifhdaa.NimF Go.Proofs.Ythjbeglmdifhdaa.NimGo
set_option linter.unusedVariables false
set_option linter.unusedSimpArgs false
open Go.ChangeShapes Go.WideShapes Go.ChangeAt Go.Deep Go.Joins Go.Proofs.Ythjbeglmdifhdaa.RFnExactValidCircuit
instance : Inhabited S118 := ⟨z118⟩
set_option maxRecDepth 100000 in
theorem open_gates {H : Type} {enc : TypeId × Value → H} {W : World} {base fuel : Nat} {held : Bool} {v1 : Value} {y : DataW H × List MemPlace} (h : DataW.trod enc Try.prog W base (fun _ => true) held fuel 55 [v1] = some y) :
    ∃ (A1 : Option Addr) (c1 : Nat) (l1 : List S118), v1 = .slice A1 l1.length c1 ∧ l1.length ≤ maxLen ∧ l1.length ≤ c1 ∧ Kd.C k118 W A1 l1.length l1 := by
  have hmx : maxLen ≤ 9223372036854775807 := by decide
  have hC : Try.prog.cellsOf 118 = 3 := by kernel_rfl
  rcases open_slice Try.underlying55 h with ⟨hcs, _⟩ | ⟨a, len, cap, m, n, D, Pl, hcs, hb, hl, hm, hmm, hx, hi⟩
  · obtain rfl := List.singleton_inj.1 hcs
    exact ⟨none, 0, [], rfl, Nat.zero_le _, Nat.le_refl _, ⟨rfl, by simp, fun h0 => absurd h0 (by simp)⟩⟩
  · obtain rfl := List.singleton_inj.1 hcs
    have hmm' : m = cap := by simpa using hmm
    subst hmm'
    have hg : ∀ i, i < m → ∃ x : S118, ∀ j u, [Value.int .i8 x.f0, .int .i16 x.f1, .int .i16 x.f2][j]? = some u → W.cell? (a.add (i * 3 + j)) = some u := by
      intro i him
      obtain ⟨cs', hc, ht'⟩ := hi i him
      rw [hC] at hc
      obtain ⟨y0, y1, y2, n', _, hlen, t0, t1, t2⟩ := trod_struct3 Try.underlying118 ht'
      rw [hC] at hlen
      have c0 : Try.prog.cellsOf 23 = 1 := by kernel_rfl
      have c1 : Try.prog.cellsOf 94 = 1 := by kernel_rfl
      obtain ⟨_, _, hat⟩ := World.cells?_some hc
      match cs', hlen with
      | [u0, u1, u2], _ =>
        simp only [c0, c1] at t0 t1 t2
        obtain ⟨f0, e0, _⟩ := DataW.trod_int Try.underlying23 t0
        obtain ⟨f1, e1, _⟩ := DataW.trod_int Try.underlying94 t1
        obtain ⟨f2, e2, _⟩ := DataW.trod_int Try.underlying94 t2
        simp at e0 e1 e2
        subst e0 e1 e2
        refine ⟨⟨f0, f1, f2⟩, fun j u hu => ?_⟩
        have hj : j < 3 := by
          rcases Nat.lt_or_ge j 3 with h | h
          · exact h
          · rw [List.getElem?_eq_none (by simpa using h)] at hu; cases hu
        have := hat j hj
        rw [Go.Deep.add_add] at this
        rw [this]; exact hu
    obtain ⟨f, hf⟩ := choose_lt hg
    have hlen : ((List.range len).map f).length = len := by simp
    refine ⟨some a, m, (List.range len).map f, by rw [hlen], by omega, by omega, ⟨rfl, by omega, fun _ => ⟨a, rfl, fun j p hj => ?_⟩⟩⟩
    rw [List.getElem?_map] at hj
    rcases Nat.lt_or_ge j len with hjl | hjl
    · rw [List.getElem?_range hjl] at hj
      obtain rfl := (Option.some.inj hj)
      exact ⟨_, rfl, k118_mk W (f j), fun i u hu => hf j (by omega) i u hu⟩
    · rw [List.getElem?_eq_none (by simpa using hjl)] at hj
      cases hj
theorem open_outs {H : Type} {enc : TypeId × Value → H} {W : World} {base fuel : Nat} {held : Bool} {v2 : Value} {y : DataW H × List MemPlace} (h : DataW.trod enc Try.prog W base (fun _ => true) held fuel 56 [v2] = some y) :
    ∃ (A2 : Option Addr) (c2 : Nat) (l2 : List Int), v2 = .slice A2 l2.length c2 ∧ l2.length ≤ maxLen ∧ l2.length ≤ c2 ∧ Kd.C (Kd.int .i16) W A2 l2.length l2 := by
  rcases open_ints Try.underlying56 Try.underlying94 (by kernel_rfl) h with ⟨hcs, _⟩ | ⟨x, ln, c, zs, hcs, _, hl, hm, hz, _, hcell, hwz⟩
  · obtain rfl := List.singleton_inj.1 hcs
    exact ⟨none, 0, [], rfl, Nat.zero_le _, Nat.le_refl _, ⟨rfl, by simp, fun h0 => absurd h0 (by simp)⟩⟩
  · obtain rfl := List.singleton_inj.1 hcs
    have hi := isInts_of hl hm (by simpa using hz) hcell hwz
    have e := hi.2.2.2.1
    refine ⟨some x, c, zs.take ln, by rw [e], by rw [e]; exact hi.1, by rw [e]; exact hl, by rw [e]; exact hi.2.2.2.2⟩
set_option maxRecDepth 100000 in
/-- a circuit that came in -/
theorem open_circ {H : Type} {enc : TypeId × Value → H} {W : World} {base b0 : Nat} {held : Bool} {r : Reach} {v : Value} {d : DataW H} {p : List MemPlace} (hv : Value.okWide Try.prog W r b0 58 v) (h : DataW.Trod enc Try.prog W base (fun _ => true) held 58 v d p) :
    ∃ (a0 : Int) (A1 : Option Addr) (c1 : Nat) (l1 : List S118) (A2 : Option Addr) (c2 : Nat) (l2 : List Int), v = .agg #[.int .i8 a0, .slice A1 l1.length c1, .slice A2 l2.length c2] ∧ (l1.length ≤ maxLen ∧ l1.length ≤ c1 ∧ Kd.C k118 W A1 l1.length l1) ∧ (l2.length ≤ maxLen ∧ l2.length ≤ c2 ∧ Kd.C (Kd.int .i16) W A2 l2.length l2) := by
  obtain ⟨v0, v1, v2, y0, y1, y2, n, rfl, _, _, h0, h1, h2⟩ := open_agg3 Try.underlying58 (by kernel_rfl) (by kernel_rfl) hv h
  obtain ⟨a0, e0, _⟩ := DataW.trod_int Try.underlying23 h0
  obtain ⟨A1, c1, l1, rfl, g1⟩ := open_gates h1
  obtain ⟨A2, c2, l2, rfl, g2⟩ := open_outs h2
  obtain rfl := List.singleton_inj.1 e0
  exact ⟨a0, A1, c1, l1, A2, c2, l2, rfl, g1, g2⟩

end Go.Proofs.Ythjbeglmdifhdaa.Given
