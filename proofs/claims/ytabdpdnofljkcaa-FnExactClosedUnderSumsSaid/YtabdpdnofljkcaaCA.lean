/- Words as keys of a map. -/
import Derived.Test.YtabdpdnofljkcaaProg
import Derived.Below
import Derived.Deep.Draws
import Derived.Deep.AppendLies
import Derived.Maps.AppendAt
import Derived.OwnWalk
import Derived.Laws.BytesArg
import Derived.Laws.MakeOwn
import Derived.Laws.OwnMore
import Derived.Deep.OwnRows
import Derived.Tactics
import Derived.Lib.ConvBytes
import Derived.Laws.Slices
import Derived.WalkKit
import Derived.KernelRfl
import Derived.RowKit3
import Derived.Deep.LoopGhost
import Derived.Deep.QuietTactic
import Derived.BigQuiet
import Derived.WideLaws
import Derived.Deep.DeepCutAuto
import Derived.Deep.CutBlock
import Derived.Deep.RegionHeld3
import Derived.Laws.Rows
import Derived.Lib.AppendStr
import Derived.ArgAppend
import Derived.Laws.IdiomCopy
import Derived.OrdersHeld
import Derived.Laws.BitsLemmas
import Derived.RowKit
import Derived.Lib.Hide
import Derived.WalkSpells
import Derived.Test.YtabdpdnofljkcaaWWords
import Derived.Test.YtabdpdnofljkcaaWLast
import Derived.Test.YtabdpdnofljkcaaWTab
import Derived.Test.YtabdpdnofljkcaaWFour
import Derived.Test.YtabdpdnofljkcaaWQPut
import Derived.Test.YtabdpdnofljkcaaWApart
import Derived.Test.YtabdpdnofljkcaaWArr
import Derived.Test.YtabdpdnofljkcaaWZeros
import Derived.Test.YtabdpdnofljkcaaWFoot
import Derived.Test.YtabdpdnofljkcaaWKept
import Derived.Test.YtabdpdnofljkcaaWShare
import Derived.Test.YtabdpdnofljkcaaWN
import Derived.Test.YtabdpdnofljkcaaWFootNe
import Derived.Test.YtabdpdnofljkcaaWAt
import Derived.Test.YtabdpdnofljkcaaWEqStruct
import Derived.Test.YtabdpdnofljkcaaWRepsOne
import Derived.Test.YtabdpdnofljkcaaWInv
import Derived.Test.YtabdpdnofljkcaaWInvWords
import Derived.Test.YtabdpdnofljkcaaWGuard
import Derived.Test.YtabdpdnofljkcaaWNEv
import Derived.Test.YtabdpdnofljkcaaWMore
import Derived.Test.YtabdpdnofljkcaaN1
import Derived.Test.YtabdpdnofljkcaaC4
import Derived.Lib.SmallJoins
import Derived.Maps.Own
import Derived.Maps.OwnSet
import Derived.Maps.Views
import Derived.Maps.Keyed
import Derived.DeepKeys4
namespace Go.Proofs.Ytabdpdnofljkcaa.Given
open Go.RowKit Go.Proofs.YtabdpdnofljkcaaW.PrintWords Go.Proofs.YtabdpdnofljkcaaW.PrintLast Go.Proofs.YtabdpdnofljkcaaW.PrintMore Go.Proofs.Ytabdpdnofljkcaa.NimF Go.Proofs.Ytabdpdnofljkcaa.NimGo
set_option linter.unusedVariables false
set_option linter.unusedSimpArgs false
open Go.Proofs.Ytabdpdnofljkcaa.NimF
open Go.Proofs.Ytabdpdnofljkcaa.NimGo
theorem laidOutA : laidOutB Try.prog = true := by kernel_rfl
theorem row69 : (69 : TypeId) < Try.prog.types.size := of_decide_eq_true (by kernel_rfl)
theorem wide69 : (match Try.prog.underlying 69 with | some (.array _ _) | some (.struct _) => true | _ => false) = true := by rw [Try.underlying69]
theorem K69 : Maps.Keyed Try.prog 69 := Maps.Keyed.of_law (deep_law_laid laidOutA (m := 2) (by omega) row69 (by kernel_rfl) wide69)
/-- a word as a key: seven letters -/
def pad (x : List Int) : List Int := (x ++ List.replicate 7 0).take 7
def U16 (x : List Int) : List Value := x.map (.int .u16)
def keyv (x : List Int) : Value := .agg (U16 (pad x)).toArray
theorem pad_length (x : List Int) : (pad x).length = 7 := by unfold pad; rw [List.length_take, List.length_append, List.length_replicate]; omega
theorem pad_wf {x : List Int} (h : ∀ n ∈ x, (Lit.int .u16 n).wf = true) : ∀ n ∈ pad x, (Lit.int .u16 n).wf = true := by
  intro n hn
  rcases List.mem_append.1 (List.mem_of_mem_take hn) with h1 | h1
  · exact h n h1
  · rw [List.eq_of_mem_replicate h1]; rfl
theorem pad_inj {x y : List Int} (hl : x.length = y.length) (h7 : x.length ≤ 7) (h : pad x = pad y) : x = y := by
  unfold pad at h
  have e : ∀ z : List Int, z.length ≤ 7 → ((z ++ List.replicate 7 0).take 7).take z.length = z := fun z hz => by
    rw [List.take_take, Nat.min_eq_left hz, List.take_left']
    rfl
  rw [← e x h7, ← e y (by omega), h, hl]
theorem keyv_inj {x y : List Int} (hl : x.length = y.length) (h7 : x.length ≤ 7) (h : keyv x = keyv y) : x = y := by
  apply pad_inj hl h7
  unfold keyv U16 at h
  injection h with h
  have h := congrArg Array.toList h
  simp only [List.toList_toArray] at h
  exact List.map_inj_right (f := Value.int .u16) (fun a b e => by injection e) |>.1 h
theorem keyOf_seven (a b c d e f g : Int) (h : ∀ n ∈ [a, b, c, d, e, f, g], (Lit.int .u16 n).wf = true) : ∃ l, keyOf Try.prog 69 (.agg #[.int .u16 a, .int .u16 b, .int .u16 c, .int .u16 d, .int .u16 e, .int .u16 f, .int .u16 g]) = some l := by
  have hk : Try.prog.keyType 69 = true := by kernel_rfl
  have hc : Try.prog.cellsOf 69 = 7 := by kernel_rfl
  have hc1 : Try.prog.cellsOf 64 = 1 := by kernel_rfl
  obtain ⟨s, hs⟩ : ∃ s, Try.prog.types.size = s + 1 := ⟨_, (by kernel_rfl : Try.prog.types.size = (Try.prog.types.size - 1) + 1)⟩
  have ha := h a (by simp); have hb := h b (by simp); have hcc := h c (by simp); have hd := h d (by simp); have he := h e (by simp); have hf := h f (by simp); have hg := h g (by simp)
  unfold keyOf
  simp only [Try.underlying69, hk, Value.formed, hc, hs, Value.cells, Program.keyLits, Try.underlying64, hc1]
  simp [List.range, List.range.loop, ha, hb, hcc, hd, he, hf, hg]
theorem keyOf_keyv {x : List Int} (h : ∀ n ∈ x, (Lit.int .u16 n).wf = true) : ∃ l, keyOf Try.prog 69 (keyv x) = some l := by
  have hw := pad_wf h
  have hl := pad_length x
  unfold keyv
  generalize pad x = y at hw hl
  match y, hl with
  | [a, b, c, d, e, f, g], _ => exact keyOf_seven a b c d e f g hw
/-- a map of the words that are in a list -/
def Has (W : World) (r n m : Nat) (ys : List (List Int)) : Prop := ∃ D : DataW Unit, W.ownsMap Try.prog 69 (plainElem Try.prog 4) r n D ∧ Maps.IsMap D ∧ ∀ x l, x.length = m → (∀ n ∈ x, (Lit.int .u16 n).wf = true) → keyOf Try.prog 69 (keyv x) = some l → D.atKey l (.lit (.bool false)) = .lit (.bool (decide (x ∈ ys)))
theorem zero4 (w : World) : (zeroValue 4).run Try.prog w = .ok (.bool false) w := by
  obtain ⟨i, hi, hz⟩ := Option.map_eq_some_iff.1 (by kernel_rfl : (Try.prog.info? 4).map (fun i => i.zero) = some (some (.bool false)))
  simp [zeroValue, typeInfo, hi, hz]
theorem has_made (w : World) (m : Nat) : Has (w.alloc (.map #[] 0)) w.heap.size 0 m [] := by
  refine ⟨.map [], World.ownsMap_made w Try.prog 69 _, ⟨[], rfl⟩, fun x l _ _ _ => ?_⟩
  rw [WideAt.atKey_none _ (fun p hp => by cases hp)]
  simp
theorem has_lookup {W : World} {r n m : Nat} {ys : List (List Int)} (h : Has W r n m ys) {x : List Int} (hm : x.length = m) (hw : ∀ k ∈ x, (Lit.int .u16 k).wf = true) : (Instr.lookup 67 (.map (some r)) (keyv x) false).run Try.prog W = .ok (.bool (decide (x ∈ ys))) W := by
  obtain ⟨D, ho, _, hat⟩ := h
  obtain ⟨l, hl⟩ := keyOf_keyv hw
  obtain ⟨v, ps, hrun, hv⟩ := ho.lookup K69 Try.underlying67 (zero4 W) (plainElem_bool Try.underlying4 false) hl
  rw [hat x l hm hw hl] at hv
  have : v = .bool (decide (x ∈ ys)) := by
    cases v <;> simp [plainElem, Try.underlying4] at hv ⊢
    exact hv.1
  rw [← this]
  exact hrun
theorem has_update {W : World} {r n m : Nat} {ys : List (List Int)} (h : Has W r n m ys) (hn : n < maxLen) {x : List Int} (hm : x.length = m) (h7 : m ≤ 7) (hw : ∀ k ∈ x, (Lit.int .u16 k).wf = true) : ∃ W', (Instr.mapUpdate 67 (.map (some r)) (keyv x) (.bool true)).run Try.prog W = .ok () W' ∧ Has W' r (n + 1) m (ys ++ [x]) ∧ W.grownBy W' (some r) := by
  obtain ⟨D, ho, hi, hat⟩ := h
  obtain ⟨l, hl⟩ := keyOf_keyv hw
  obtain ⟨W', hrun, h1, hg⟩ := ho.update K69 Try.underlying67 hn hl (plainElem_bool Try.underlying4 true)
  refine ⟨W', hrun, ⟨_, h1, h1.isMap, fun y k hy hwy hk => ?_⟩, hg⟩
  by_cases e : k = l
  · subst e
    have : y = x := keyv_inj (by omega) (by omega) (K69.inj hk hl)
    subst this
    rw [Maps.atKey_put_same hi (K69.key hl)]
    simp
  · rw [Maps.atKey_put_other e, hat y k hy hwy hk]
    have : y ≠ x := fun e2 => by subst e2; rw [hl] at hk; exact e (Option.some.inj hk).symm
    simp [this]

end Go.Proofs.Ytabdpdnofljkcaa.Given
