/- A map of the words of a list: walked. -/
import Derived.Test.YtabdpdnofljkcaaProg
import Derived.Below
import Derived.Deep.Draws
import Derived.Deep.AppendLies
import Derived.Maps.AppendAt
import Derived.OwnWalk
import Derived.Laws.BytesArg
import Derived.Laws.MakeOwn
import Derived.Laws.OwnMore
import Derived.Deep.OwnRows
import Derived.Tactics
import Derived.Lib.ConvBytes
import Derived.Laws.Slices
import Derived.WalkKit
import Derived.KernelRfl
import Derived.RowKit3
import Derived.Deep.LoopGhost
import Derived.Deep.QuietTactic
import Derived.BigQuiet
import Derived.WideLaws
import Derived.Deep.DeepCutAuto
import Derived.Deep.CutBlock
import Derived.Deep.RegionHeld3
import Derived.Laws.Rows
import Derived.Lib.AppendStr
import Derived.ArgAppend
import Derived.Laws.IdiomCopy
import Derived.OrdersHeld
import Derived.Laws.BitsLemmas
import Derived.RowKit
import Derived.Lib.Hide
import Derived.WalkSpells
import Derived.Test.YtabdpdnofljkcaaWWords
import Derived.Test.YtabdpdnofljkcaaWLast
import Derived.Test.YtabdpdnofljkcaaWTab
import Derived.Test.YtabdpdnofljkcaaWFour
import Derived.Test.YtabdpdnofljkcaaWQPut
import Derived.Test.YtabdpdnofljkcaaWApart
import Derived.Test.YtabdpdnofljkcaaWArr
import Derived.Test.YtabdpdnofljkcaaWZeros
import Derived.Test.YtabdpdnofljkcaaWFoot
import Derived.Test.YtabdpdnofljkcaaWKept
import Derived.Test.YtabdpdnofljkcaaWShare
import Derived.Test.YtabdpdnofljkcaaWN
import Derived.Test.YtabdpdnofljkcaaWFootNe
import Derived.Test.YtabdpdnofljkcaaWAt
import Derived.Test.YtabdpdnofljkcaaWEqStruct
import Derived.Test.YtabdpdnofljkcaaWRepsOne
import Derived.Test.YtabdpdnofljkcaaWInv
import Derived.Test.YtabdpdnofljkcaaWInvWords
import Derived.Test.YtabdpdnofljkcaaWGuard
import Derived.Test.YtabdpdnofljkcaaWNEv
import Derived.Test.YtabdpdnofljkcaaWMore
import Derived.Test.YtabdpdnofljkcaaN1
import Derived.Test.YtabdpdnofljkcaaCB
import Derived.Lib.SmallJoins
import Derived.Carry
namespace Go.Proofs.Ytabdpdnofljkcaa.Given
open Go.RowKit Go.Proofs.YtabdpdnofljkcaaW.PrintWords Go.Proofs.YtabdpdnofljkcaaW.PrintLast Go.Proofs.YtabdpdnofljkcaaW.PrintMore Go.Proofs.Ytabdpdnofljkcaa.NimF Go.Proofs.Ytabdpdnofljkcaa.NimGo
set_option linter.unusedVariables false
set_option linter.unusedSimpArgs false
open Go.Proofs.Ytabdpdnofljkcaa.NimF
open Go.Proofs.Ytabdpdnofljkcaa.NimGo
theorem at_row {w : World} {A : Option Addr} {l : List (List Int)} (h : Kd.C (Kd.slice 64 (Kd.int .u16)) w A l.length l) {j : Nat} (hj : j < l.length) : ∃ ad, A = some ad ∧ ∃ A' c', w.cell? (ad.add j) = some (.slice A' (l.getD j []).length c') ∧ (l.getD j []).length ≤ c' ∧ Kd.C (Kd.int .u16) w A' (l.getD j []).length (l.getD j []) := by
  obtain ⟨ad, e, hc⟩ := h.2.2 (by omega)
  obtain ⟨c, hs, ⟨A', c', hcs, hl, hi⟩, hcell⟩ := hc j _ (List.getElem?_eq_getElem hj)
  have eg : l.getD j [] = l[j] := by simp [List.getD, hj]
  subst hcs
  refine ⟨ad, e, A', c', ?_, by rw [eg]; exact hl, by rw [eg]; exact hi⟩
  have := hcell 0 _ rfl
  rw [eg]
  have z : j * (Kd.slice 64 (Kd.int .u16)).sz + 0 = j := by show j * 1 + 0 = j; omega
  rw [z] at this
  exact this
theorem has_grown {W W' : World} {r n m : Nat} {ys : List (List Int)} {row : Option Nat} (h : Has W r n m ys) (hg : W.grownBy W' row) (hne : some r ≠ row) : Has W' r n m ys := by
  obtain ⟨D, ho, hi, hat⟩ := h
  exact ⟨D, ho.kept hg hne, hi, hat⟩
theorem has_below {W W' : World} {r n m : Nat} {ys : List (List Int)} (h : Has W r n m ys) (hb : Below W.heap.size W W') : Has W' r n m ys := has_grown h (grown_of_below hb none) (by simp)
theorem wpList_update_has {W : World} {ops : Array Oper} {rest : List Oper} {o : Oper} {a : Act} {Q : Exit → Act → World → Prop} (hg : o.guard = none) (m x v : Operand) (hop : o.op = Op.mapUpdate 67 m x v) (r n k : Nat) (ys : List (List Int)) (y : List Int)
    (hm : a.eval m = .map (some r)) (hx : a.eval x = keyv y) (hv : a.eval v = .bool true) (h : Has W r n k ys) (hn : n < maxLen) (hl : y.length = k) (h7 : k ≤ 7) (hw : ∀ i ∈ y, (Lit.int .u16 i).wf = true)
    (hK : ∀ W', Has W' r (n + 1) k (ys ++ [y]) → W.grownBy W' (some r) → wpList Try.prog ops Q rest (a.put o.dst undef) W') : wpList Try.prog ops Q (o :: rest) a W := by
  refine wpList_plain hg fun K' hK' => ?_
  obtain ⟨w', hrun, r1, r2⟩ := has_update h hn hl h7 hw
  unfold Oper.wp
  simp [execOp, hop, hm, hx, hv, hrun, Result.andThen]
  exact hK' _ _ (hK w' r1 r2)
theorem wpList_lookup_has {W : World} {ops : Array Oper} {rest : List Oper} {o : Oper} {a : Act} {Q : Exit → Act → World → Prop} (hg : o.guard = none) (m x : Operand) (hop : o.op = Op.lookup 67 m x false) (r n k : Nat) (ys : List (List Int)) (y : List Int)
    (hm : a.eval m = .map (some r)) (hx : a.eval x = keyv y) (h : Has W r n k ys) (hl : y.length = k) (hw : ∀ i ∈ y, (Lit.int .u16 i).wf = true)
    (hK : wpList Try.prog ops Q rest (a.put o.dst (.bool (decide (y ∈ ys)))) W) : wpList Try.prog ops Q (o :: rest) a W := by
  refine wpList_plain hg fun K' hK' => ?_
  have hrun := has_lookup h hl hw
  unfold Oper.wp
  simp [execOp, hop, hm, hx, hrun, Result.andThen]
  exact hK' _ _ hK
theorem take_snoc {l : List (List Int)} {j : Nat} (h : j < l.length) : l.take (j + 1) = l.take j ++ [l.getD j []] := by
  rw [List.take_add_one, List.getElem?_eq_getElem h]; simp [List.getD, h]
theorem getD_in {l : List (List Int)} {i : Nat} (h : i < l.length) : l.getD i [] ∈ l := by
  have e : l.getD i [] = l[i] := by simp [List.getD, h]
  rw [e]; exact List.getElem_mem h
set_option maxHeartbeats 2000000 in
set_option maxRecDepth 100000 in
theorem among_calls (A0 : Option Addr) (c0 : Nat) (l : List (List Int)) (m : Nat) (w : World) (hr : Kd.C (Kd.slice 64 (Kd.int .u16)) w A0 l.length l) (hl : l.length ≤ 1048576) (h7 : m ≤ 7) (hx : ∀ x ∈ l, x.length = m ∧ ∀ i ∈ x, (Lit.int .u16 i).wf = true) :
    Calls Try.prog 52 #[.slice A0 l.length c0] w fun e w' => ∃ r, e = .returned (.map (some r)) ∧ Has w' r l.length m l ∧ Below w.heap.size w w' := by
  have HR := Lib.hid hr
  have HX := Lib.hid (And.intro hl (And.intro h7 hx))
  have HM := Lib.hid (has_made w m)
  have HB0 : Hid (Below w.heap.size w (w.alloc (.map #[] 0))) := Lib.hid (below_alloc (Below.refl _ _) _)
  have HRR : Hid (w.heap.size ≤ w.heap.size) := Lib.hid (Nat.le_refl _)
  have hmax : l.length ≤ 9223372036854775807 := by omega
  clear hr hl h7 hx
  have hmm := @run_makeMap Try.prog
  go_enter Try.func52, Try.ntmps52
  go_wp2
  go_loopg [5, 9] l.length (fun gg v5 v9 wr => ∃ n : Nat, Hid (n ≤ l.length) ∧ Hid (l.length - n ≤ gg) ∧ v9 = .int .i64 (n : Int) ∧ Hid (Has wr w.heap.size n m (l.take n)) ∧ Hid (Below w.heap.size w wr))
  case atStart => exact ⟨0, Lib.hid (Nat.zero_le _), Lib.hid (Nat.sub_le _ _), rfl, HM, HB0⟩
  case round =>
    clear HM HB0 hmm
    obtain ⟨n, hn, hg, rfl, HM, HB⟩ := hrel
    by_cases hlt : n < l.length
    · obtain ⟨ad, e, A', c', hx, hcx, hi⟩ := at_row (Kd.C_below HR.out HB.out) hlt
      subst e
      have hb0 : decide ((n : Int) < (l.length : Int)) = true := decide_eq_true (by omega)
      have hb1 : (n : Int) < (l.length : Int) := by omega
      have hi0 : (0 : Int) ≤ (n : Int) := by omega
      have hnb : n < 9223372036854775807 := by omega
      have TS := Lib.hid (take_snoc hlt)
      have HY := Lib.hid (HX.out.2.2 _ (getD_in hlt))
      have HK := Lib.hid (key_calls A' c' (l.getD n []) wr hi (by rw [HY.out.1]; exact HX.out.2.1))
      generalize l.getD n [] = y at hx TS HK HY
      have HN := Lib.hid hlt
      clear hi hcx hlt
      go_wp2_with (first
        | (go_at_call 54; (with_reducible refine HK.out.mono ?_); rintro e w1 ⟨rfl, hb⟩; have HM1 := Lib.hid (has_below HM.out hb); have HB1 := Lib.hid (below_step HB.out hb); clear hb)
        | (with_reducible refine wpList_update_has rfl (.tmp 13) (.tmp 15) (.const (.bool true)) rfl w.heap.size n m (l.take n) y rfl rfl rfl HM1.out (by have := HN.out; have := HX.out.1; unfold maxLen; omega) HY.out.1 HX.out.2.1 HY.out.2 ?_; intro w2 hm2 hg2; rw [← TS.out] at hm2; have HM2 := Lib.hid hm2; have HB2 := Lib.hid (pw_below_grown HB1.out (some w.heap.size) (below_size HB1.out) hg2 (fun k hk => by injection hk with hk; omega)); clear hm2 hg2))
      go_roundg (l.length - (n + 1))
      case measure => have := hg.out; have := HN.out; omega
      case rel => exact ⟨n + 1, Lib.hid HN.out, Lib.hid (Nat.le_refl _), by first | rfl | go_num, HM2, HB2⟩
    · have en : n = l.length := by have := hn.out; omega
      subst en
      have hb0 : decide ((l.length : Int) < (l.length : Int)) = false := decide_eq_false (by omega)
      have TF : Hid (l.take l.length = l) := Lib.hid List.take_length
      rw [TF.out] at HM
      clear hn hg hlt TF
      go_wp2
      go_ret
      exact ⟨_, rfl, HM.out, HB.out⟩

end Go.Proofs.Ytabdpdnofljkcaa.Given
