/- The one word that is near, as the reference finds it. -/
import Derived.Test.YtabdpdnofljkcaaProg
import Derived.Below
import Derived.Deep.Draws
import Derived.Deep.AppendLies
import Derived.Maps.AppendAt
import Derived.OwnWalk
import Derived.Laws.BytesArg
import Derived.Laws.MakeOwn
import Derived.Laws.OwnMore
import Derived.Deep.OwnRows
import Derived.Tactics
import Derived.Lib.ConvBytes
import Derived.Laws.Slices
import Derived.WalkKit
import Derived.KernelRfl
import Derived.RowKit3
import Derived.Deep.LoopGhost
import Derived.Deep.QuietTactic
import Derived.BigQuiet
import Derived.WideLaws
import Derived.Deep.DeepCutAuto
import Derived.Deep.CutBlock
import Derived.Deep.RegionHeld3
import Derived.Laws.Rows
import Derived.Lib.AppendStr
import Derived.ArgAppend
import Derived.Laws.IdiomCopy
import Derived.OrdersHeld
import Derived.Laws.BitsLemmas
import Derived.RowKit
import Derived.Lib.Hide
import Derived.WalkSpells
import Derived.Test.YtabdpdnofljkcaaWWords
import Derived.Test.YtabdpdnofljkcaaWLast
import Derived.Test.YtabdpdnofljkcaaWTab
import Derived.Test.YtabdpdnofljkcaaWFour
import Derived.Test.YtabdpdnofljkcaaWQPut
import Derived.Test.YtabdpdnofljkcaaWApart
import Derived.Test.YtabdpdnofljkcaaWArr
import Derived.Test.YtabdpdnofljkcaaWZeros
import Derived.Test.YtabdpdnofljkcaaWFoot
import Derived.Test.YtabdpdnofljkcaaWKept
import Derived.Test.YtabdpdnofljkcaaWShare
import Derived.Test.YtabdpdnofljkcaaWN
import Derived.Test.YtabdpdnofljkcaaWFootNe
import Derived.Test.YtabdpdnofljkcaaWAt
import Derived.Test.YtabdpdnofljkcaaWEqStruct
import Derived.Test.YtabdpdnofljkcaaWRepsOne
import Derived.Test.YtabdpdnofljkcaaWInv
import Derived.Test.YtabdpdnofljkcaaWInvWords
import Derived.Test.YtabdpdnofljkcaaWGuard
import Derived.Test.YtabdpdnofljkcaaWNEv
import Derived.Test.YtabdpdnofljkcaaWMore
import Derived.Test.YtabdpdnofljkcaaN1
import Derived.Test.YtabdpdnofljkcaaC4
import Derived.Test.YtabdpdnofljkcaaRFnExactRepairWithx2
import Derived.Test.YtabdpdnofljkcaaRFnExactRepairWithx3
import Derived.Test.YtabdpdnofljkcaaRAPTx1
namespace Go.Proofs.Ytabdpdnofljkcaa.Given
open Go.RowKit Go.Proofs.YtabdpdnofljkcaaW.PrintWords Go.Proofs.YtabdpdnofljkcaaW.PrintLast Go.Proofs.YtabdpdnofljkcaaW.PrintMore Go.Proofs.Ytabdpdnofljkcaa.NimF Go.Proofs.Ytabdpdnofljkcaa.NimGo
set_option linter.unusedVariables false
set_option linter.unusedSimpArgs false
open Go.Proofs.Ytabdpdnofljkcaa.RFnExactRepairWith
open Go.Proofs.Ytabdpdnofljkcaa.RAPT
open Go.Proofs.Ytabdpdnofljkcaa.NimF
open Go.Proofs.Ytabdpdnofljkcaa.NimGo
theorem toWord_ev (l : List Int) (h : l.length ≤ 1048576) : ∃ K, ∀ k, K ≤ k → laws_toWord.f k l = some l :=
  to_ev (fun _ _ => rfl) (fun _ _ _ _ => rfl) l (by omega)
theorem eqWord_ev (l : List Int) (h : l.length ≤ 1048576) : ∃ K, ∀ k, K ≤ k → laws_eqWord.f k l l = some true :=
  eq_refl_ev (fun _ _ _ => rfl) (fun _ _ _ _ => rfl) l (by omega)

def isB (b : Int) : Bool := b == 2 || b == 4 || b == 16 || b == 256
theorem sbase (b : Int) : spec_l06Base.f b = some (isB b) := by
  unfold spec_l06Base.f isB
  by_cases h2 : b = 2
  · subst h2; rfl
  by_cases h4 : b = 4
  · subst h4; rfl
  by_cases h16 : b = 16
  · subst h16; rfl
  rw [if_neg h2, if_neg h4, if_neg h16]
  have e2 : (b == 2) = false := beq_eq_false_iff_ne.mpr h2
  have e4 : (b == 4) = false := beq_eq_false_iff_ne.mpr h4
  have e16 : (b == 16) = false := beq_eq_false_iff_ne.mpr h16
  rw [e2, e4, e16]; rfl
theorem isB_cases {b : Int} (h : isB b = true) : b = 2 ∨ b = 4 ∨ b = 16 ∨ b = 256 := by
  unfold isB at h
  simp only [Bool.or_eq_true, beq_iff_eq] at h
  omega
theorem sin (a b c : Int) : spec_l00In.f a b c = some (decide (b ≤ a ∧ a ≤ c)) := by
  unfold spec_l00In.f
  by_cases h : a ≥ b
  · rw [if_pos h]; congr 1; rw [Bool.eq_iff_iff]; simp only [decide_eq_true_eq]; omega
  · rw [if_neg h]; congr 1; symm; exact decide_eq_false (by omega)

def isForB (l : List Int) (b : Int) : Bool := decide (1 ≤ l.length ∧ l.length ≤ 7) && !l.any (over b)
theorem over_at {l : List Int} {b : Int} {i : Nat} (h : i < l.length) : (l.take (i + 1)).any (over b) = ((l.take i).any (over b) || over b (l.getD i 0)) := by
  rw [List.take_add_one, List.any_append, List.getElem?_eq_getElem h]; simp [List.getD, h]
theorem over_mem {l : List Int} {b : Int} {i : Nat} (h : i < l.length) (ho : over b (l.getD i 0) = true) : l.any (over b) = true :=
  List.any_eq_true.2 ⟨_, by rw [List.getD_eq_getElem?_getD, List.getElem?_eq_getElem h]; exact List.getElem_mem h, ho⟩
theorem sword_loop (l : List Int) (b : Int) (hl : l.length ≤ 1048576) : ∀ (d i : Nat), i + d = l.length → (l.take i).any (over b) = false → Ev (fun k => spec_l06Word.l0 k b l (i : Int)) (isForB l b) := by
  intro d
  induction d with
  | zero =>
    intro i hi ha
    have ei : i = l.length := by omega
    rw [ei, List.take_length] at ha
    refine Ev.step (f := fun _ => some (isForB l b)) (fun k => ?_) (Ev.now _)
    simp only [spec_l06Word.l0]
    rw [if_neg (by omega), sin, Option.bind_some]
    unfold isForB
    rw [ha]
    congr 1
    rw [Bool.not_false, Bool.and_true, decide_eq_decide]
    omega
  | succ d ih =>
    intro i hi ha
    have hlt : i < l.length := by omega
    by_cases ho : over b (l.getD i 0) = true
    · refine Ev.step (f := fun _ => some (isForB l b)) (fun k => ?_) (Ev.now _)
      simp only [spec_l06Word.l0]
      rw [if_pos (by omega), if_pos (by omega), rd_nat, if_pos (by unfold over at ho; exact of_decide_eq_true ho)]
      unfold isForB
      rw [over_mem hlt ho]
      simp
    · have h := ih (i + 1) (by omega) (by rw [over_at hlt, ha]; simpa using ho)
      refine Ev.step (f := fun k => spec_l06Word.l0 k b l ((i + 1 : Nat) : Int)) (fun k => ?_) h
      simp only [spec_l06Word.l0]
      rw [if_pos (by omega), if_pos (by omega), rd_nat, if_neg (by intro h; exact ho (by unfold over; exact decide_eq_true h)), w64s (by omega)]
theorem sword (l : List Int) (b : Int) (hl : l.length ≤ 1048576) : ∃ K, ∀ k, K ≤ k → spec_l06Word.f k b l = some (isForB l b) := by
  exact sword_loop l b hl l.length 0 (by omega) (by simp)
theorem iword (l : List Int) (b : Int) : impl_Word_isFor.f l b = some (isForB l b) := rfl

theorem rdL1 (xs : List (List Int)) (i : Nat) : rd_L1 xs (i : Int) = xs.getD i [] := by simp [rd_L1]
theorem rdL2 (xs : List (List Int)) (i : Nat) : rd_L2 xs (i : Int) = xs.getD i [] := by simp [rd_L2]
theorem getD_mem {l : List (List Int)} {i : Nat} (h : i < l.length) : l.getD i [] ∈ l := by
  have e : l.getD i [] = l[i] := by simp [List.getD, h]
  rw [e]; exact List.getElem_mem h
theorem szw (x : List Int) (n : Nat) (hn : n ≤ 1048576) (hx : x.length ≤ 9223372036854775807) : laws_szWord.f x (n : Int) = some (if n < x.length then -1 else ((n - x.length : Nat) : Int)) := by
  have w : wrap64 ((n : Int) - (x.length : Int)) = (n : Int) - (x.length : Int) := by unfold wrap64; omega
  unfold laws_szWord.f
  rw [w]
  by_cases h : n < x.length
  · rw [if_pos (by omega), if_pos h]
  · rw [if_neg (by omega), if_neg h]; congr 1; omega
theorem sz_loop (l : List (List Int)) (hl : l.length ≤ 1048576) (hx : ∀ x ∈ l, x.length ≤ 9223372036854775807) : ∀ (d i n : Nat), i + d = l.length → n ≤ 1048576 → ∃ v : Int, Ev (fun k => laws_szWordS.l0 k l (n : Int) (i : Int)) v ∧ (v < 0 ∨ ∀ j, i ≤ j → j < l.length → (l.getD j []).length ≤ 1048576) := by
  intro d
  induction d with
  | zero =>
    intro i n hi hn
    exact ⟨(n : Int), Ev.step (f := fun _ => some (n : Int)) (fun k => by simp only [laws_szWordS.l0]; rw [if_neg (by omega)]) (Ev.now _), .inr (fun j h1 h2 => absurd h2 (by omega))⟩
  | succ d ih =>
    intro i n hi hn
    have hxi := hx _ (getD_mem (show i < l.length by omega))
    by_cases h : n < (l.getD i []).length
    · refine ⟨-1, Ev.step (f := fun _ => some (-1)) (fun k => ?_) (Ev.now _), .inl (by omega)⟩
      simp only [laws_szWordS.l0]
      rw [if_pos (by omega), if_pos (by omega), rdL1, szw _ _ hn hxi, if_pos h, Option.bind_some, if_pos (by omega)]
    · obtain ⟨v, e, hv⟩ := ih (i + 1) (n - (l.getD i []).length) (by omega) (by omega)
      refine ⟨v, Ev.step (f := fun k => laws_szWordS.l0 k l ((n - (l.getD i []).length : Nat) : Int) ((i + 1 : Nat) : Int)) (fun k => ?_) e, ?_⟩
      · simp only [laws_szWordS.l0]
        rw [if_pos (by omega), if_pos (by omega), rdL1, szw _ _ hn hxi, if_neg h, Option.bind_some, if_neg (by omega), w64s (by omega)]
      · rcases hv with hv | hv
        · exact .inl hv
        · refine .inr (fun j h1 h2 => ?_)
          by_cases hj : j = i
          · subst hj; omega
          · exact hv j (by omega) h2
theorem sz_ev (l : List (List Int)) (hl : l.length ≤ maxLen) (hx : ∀ x ∈ l, x.length ≤ maxLen) : ∃ v : Int, Ev (fun k => laws_szWordS.f k l 1048576) v ∧ (v < 0 ∨ l.length ≤ 1048576 ∧ ∀ x ∈ l, x.length ≤ 1048576) := by
  have hmx : maxLen ≤ 9223372036854775807 := by decide
  have w : wrap64 ((1048576 : Int) - (l.length : Int)) = (1048576 : Int) - (l.length : Int) := by unfold wrap64; omega
  by_cases h : 1048576 < l.length
  · exact ⟨-1, ⟨0, fun k _ => by show laws_szWordS.f k l 1048576 = _; unfold laws_szWordS.f; rw [w, if_pos (by omega)]⟩, .inl (by omega)⟩
  · obtain ⟨v, e, hv⟩ := sz_loop l (by omega) (fun x m => Nat.le_trans (hx x m) hmx) l.length 0 (1048576 - l.length) (by omega) (by omega)
    refine ⟨v, Ev.congr (fun k => ?_) e, ?_⟩
    · show laws_szWordS.f k l 1048576 = laws_szWordS.l0 k l ((1048576 - l.length : Nat) : Int) ((0 : Nat) : Int)
      unfold laws_szWordS.f
      rw [w, if_neg (by omega), show (1048576 : Int) - (l.length : Int) = ((1048576 - l.length : Nat) : Int) by omega]
      rfl
    · rcases hv with hv | hv
      · exact .inl hv
      · refine .inr ⟨by omega, fun x m => ?_⟩
        obtain ⟨j, hj, rfl⟩ := List.mem_iff_getElem.1 m
        have := hv j (by omega) hj
        simpa [List.getD, hj] using this

def weight (l : List Int) : Nat := l.countP (fun x => x != 0)
theorem weight_zero {x : Int} (l : List Int) (h : x = 0) : weight (x :: l) = weight l := by unfold weight; rw [List.countP_cons]; simp [h]
theorem weight_one {x : Int} (l : List Int) (h : ¬ x = 0) : weight (x :: l) = weight l + 1 := by unfold weight; rw [List.countP_cons]; simp [h]
theorem weight_le (l : List Int) : weight l ≤ l.length := List.countP_le_length
theorem impl_weight_loop (l : List Int) (h : l.length ≤ 1048576) : ∀ d i (n : Nat), i + d = l.length → n ≤ i → Ev (fun k => impl_WeightOf.l0 k (n : Int) l (l.length : Int) (i : Int)) ((n + weight (l.drop i) : Nat) : Int) := by
  intro d
  induction d with
  | zero =>
    intro i n hi hn
    rw [List.drop_eq_nil_of_le (by omega)]
    exact Ev.step (f := fun _ => some (n : Int)) (fun k => by simp only [impl_WeightOf.l0]; rw [if_neg (by omega)]) (Ev.now _)
  | succ d ih =>
    intro i n hi hn
    have hd : l.drop i = l[i] :: l.drop (i + 1) := List.drop_eq_getElem_cons (by omega)
    have he : l.getD i 0 = l[i] := by simp [List.getD, show i < l.length by omega]
    by_cases hz : l[i] = 0
    · have hw : weight (l.drop i) = weight (l.drop (i + 1)) := by rw [hd, weight_zero _ hz]
      rw [hw]
      refine Ev.step (f := fun k => impl_WeightOf.l0 k (n : Int) l (l.length : Int) ((i + 1 : Nat) : Int)) (fun k => ?_) (ih (i + 1) n (by omega) (by omega))
      simp only [impl_WeightOf.l0]
      rw [if_pos (by omega), if_pos (by omega), if_pos (by omega), rd_nat, he, if_pos hz, w64s (by omega)]
    · have hw : n + weight (l.drop i) = n + 1 + weight (l.drop (i + 1)) := by rw [hd, weight_one _ hz]; omega
      rw [hw]
      refine Ev.step (f := fun k => impl_WeightOf.l0 k ((n + 1 : Nat) : Int) l (l.length : Int) ((i + 1 : Nat) : Int)) (fun k => ?_) (ih (i + 1) (n + 1) (by omega) (by omega))
      simp only [impl_WeightOf.l0]
      rw [if_pos (by omega), if_pos (by omega), if_pos (by omega), rd_nat, he, if_neg hz, w64s (by omega), w64s (by omega)]
theorem impl_weight (l : List Int) (h : l.length ≤ 1048576) : ∃ K, ∀ k, K ≤ k → impl_WeightOf.f k l = some ((weight l : Nat) : Int) := by
  have e := impl_weight_loop l h l.length 0 0 (by omega) (by omega)
  rw [Nat.zero_add, List.drop_zero] at e
  exact e

def xorl (a b : List Int) : List Int := List.zipWith (fun x y => Go.bits .xor .u16 x y) a b
theorem xorl_length {a b : List Int} (h : a.length = b.length) : (xorl a b).length = a.length := by
  unfold xorl; rw [List.length_zipWith]; omega
theorem xorl_drop {a b : List Int} {i : Nat} (ha : i < a.length) (hb : i < b.length) : (xorl a b).drop i = Go.bits .xor .u16 (a.getD i 0) (b.getD i 0) :: (xorl a b).drop (i + 1) := by
  have h : i < (xorl a b).length := by unfold xorl; rw [List.length_zipWith]; omega
  rw [List.drop_eq_getElem_cons h]
  congr 1
  simp [xorl, List.getD, ha, hb]
theorem plus_loop (a b : List Int) (hl : a.length = b.length) (h7 : a.length ≤ 1048576) : ∀ (d i : Nat) (x : List Int), i + d = a.length → x.length = i → Ev (fun k => impl_Word_plus.l0 k b x a (a.length : Int) (i : Int)) (x ++ (xorl a b).drop i) := by
  intro d
  induction d with
  | zero =>
    intro i x hi hx
    rw [List.drop_eq_nil_of_le (by rw [xorl_length hl]; omega), List.append_nil]
    exact Ev.step (f := fun _ => some x) (fun k => by simp only [impl_Word_plus.l0]; rw [if_neg (by omega)]) (Ev.now _)
  | succ d ih =>
    intro i x hi hx
    have e := ih (i + 1) (x ++ [Go.bits .xor .u16 (a.getD i 0) (b.getD i 0)]) (by omega) (by simp [hx])
    rw [xorl_drop (by omega) (by omega)]
    rw [List.append_assoc, List.singleton_append] at e
    refine Ev.step (f := fun k => impl_Word_plus.l0 k b (x ++ [Go.bits .xor .u16 (a.getD i 0) (b.getD i 0)]) a (a.length : Int) ((i + 1 : Nat) : Int)) (fun k => ?_) e
    simp only [impl_Word_plus.l0]
    rw [if_pos (by omega), if_pos (by omega), if_pos (by omega), if_pos (by omega), if_pos (by omega), rd_nat, rd_nat, w64s (by omega)]
theorem plus_ev (a b : List Int) (hl : a.length = b.length) (h7 : a.length ≤ 1048576) : ∃ K, ∀ k, K ≤ k → impl_Word_plus.f k a b = some (xorl a b) := by
  have e := plus_loop a b hl h7 a.length 0 [] (by omega) rfl
  rw [List.nil_append, List.drop_zero] at e
  exact e

theorem xor_zero_iff {x y : Int} (hx : (Lit.int .u16 x).wf = true) (hy : (Lit.int .u16 y).wf = true) : Go.bits .xor .u16 x y = 0 ↔ x = y := by
  obtain ⟨a, rfl, ha⟩ := wf_u16 hx
  obtain ⟨b, rfl, hb⟩ := wf_u16 hy
  rw [xor16 ha hb]
  constructor
  · intro h
    have : a ^^^ b = 0 := by omega
    rw [xor_eq_zero this]
  · intro h
    have : a = b := by omega
    rw [this, Nat.xor_self]; rfl
theorem getD_wf {l : List Int} (h : ∀ x ∈ l, (Lit.int .u16 x).wf = true) {i : Nat} (hi : i < l.length) : (Lit.int .u16 (l.getD i 0)).wf = true := by
  have e : l.getD i 0 = l[i] := by simp [List.getD, hi]
  rw [e]; exact h _ (List.getElem_mem hi)
theorem apart_loop (a b : List Int) (wa : ∀ x ∈ a, (Lit.int .u16 x).wf = true) (wb : ∀ x ∈ b, (Lit.int .u16 x).wf = true) (hl : a.length = b.length) (h7 : a.length ≤ 1048576) :
    ∀ (d i n : Nat), i + d = a.length → n ≤ i → Ev (fun k => spec_l06Apart.l0 k a b (n : Int) (i : Int)) ((n + weight ((xorl a b).drop i) : Nat) : Int) := by
  intro d
  induction d with
  | zero =>
    intro i n hi hn
    rw [List.drop_eq_nil_of_le (by rw [xorl_length hl]; omega)]
    exact Ev.step (f := fun _ => some (n : Int)) (fun k => by simp only [spec_l06Apart.l0]; rw [if_neg (by omega)]) (Ev.now _)
  | succ d ih =>
    intro i n hi hn
    have hz := xor_zero_iff (getD_wf wa (show i < a.length by omega)) (getD_wf wb (show i < b.length by omega))
    by_cases hv : a.getD i 0 = b.getD i 0
    · have hw : n + weight ((xorl a b).drop i) = n + weight ((xorl a b).drop (i + 1)) := by rw [xorl_drop (by omega) (by omega), weight_zero _ (hz.2 hv)]
      rw [hw]
      refine Ev.step (f := fun k => spec_l06Apart.l0 k a b (n : Int) ((i + 1 : Nat) : Int)) (fun k => ?_) (ih (i + 1) n (by omega) (by omega))
      simp only [spec_l06Apart.l0]
      rw [if_pos (by omega), if_pos (by omega), if_pos (by omega), rd_nat, rd_nat, if_pos hv, w64s (by omega)]
    · have hw : n + weight ((xorl a b).drop i) = n + 1 + weight ((xorl a b).drop (i + 1)) := by rw [xorl_drop (by omega) (by omega), weight_one _ (fun e => hv (hz.1 e))]; omega
      rw [hw]
      refine Ev.step (f := fun k => spec_l06Apart.l0 k a b ((n + 1 : Nat) : Int) ((i + 1 : Nat) : Int)) (fun k => ?_) (ih (i + 1) (n + 1) (by omega) (by omega))
      simp only [spec_l06Apart.l0]
      rw [if_pos (by omega), if_pos (by omega), if_pos (by omega), rd_nat, rd_nat, if_neg hv, w64s (by omega), w64s (by omega)]

/-- in how many numbers two words differ -/
def ap (a b : List Int) : Int := ((weight (xorl a b) : Nat) : Int)
theorem sap (a b : List Int) (wa : ∀ x ∈ a, (Lit.int .u16 x).wf = true) (wb : ∀ x ∈ b, (Lit.int .u16 x).wf = true) (hl : a.length = b.length) (h : a.length ≤ 1048576) : Ev (fun k => spec_l06Apart.f k a b) (ap a b) := by
  have e := apart_loop a b wa wb hl h a.length 0 0 (by omega) (by omega)
  rw [Nat.zero_add, List.drop_zero] at e
  exact e
theorem iap (a b : List Int) (hl : a.length = b.length) (h : a.length ≤ 1048576) : Ev (fun k => impl_Word_apart.f k a b) (ap a b) := by
  unfold impl_Word_apart.f
  refine Ev.bind (plus_ev a b hl h) ?_
  refine Ev.congr (fun k => ?_) (impl_weight (xorl a b) (by rw [xorl_length hl]; omega))
  cases impl_WeightOf.f k (xorl a b) <;> rfl

theorem takeW_set_succ {x a : List (List Int)} {i : Nat} {v : List Int} (hi : i < x.length) (ht : x.take i = a.take i) (hv : a[i]? = some v) : (x.set i v).take (i + 1) = a.take (i + 1) := by
  apply List.ext_getElem?
  intro j
  have hj := congrArg (fun l => l[j]?) ht
  simp only [List.getElem?_take] at hj
  simp only [List.getElem?_take, List.getElem?_set]
  by_cases h1 : j < i
  · have h2 : j < i + 1 := by omega
    have h3 : ¬ i = j := by omega
    simp only [h1, if_true] at hj
    simp only [h2, h3, if_true, if_false]; exact hj
  · by_cases h2 : j = i
    · subst h2
      simp [hi, hv]
    · have h3 : ¬ j < i + 1 := by omega
      simp [h3]
theorem getDW_some {a : List (List Int)} {i : Nat} (h : i < a.length) : a[i]? = some (a.getD i []) := by
  simp [List.getD, h]
theorem toWordS_loop (l : List (List Int)) (hl : l.length ≤ 1048576) (hx : ∀ x ∈ l, x.length ≤ 1048576) : ∀ d i (x : List (List Int)), i + d = l.length → x.length = l.length → x.take i = l.take i → Ev (fun k => laws_toWordS.l0 k l x (i : Int)) l := by
  intro d
  induction d with
  | zero =>
    intro i x hi hlx ht
    have hxa : x = l := by
      rw [List.take_of_length_le (by omega), List.take_of_length_le (by omega)] at ht; exact ht
    subst hxa
    exact Ev.step (f := fun _ => some x) (fun k => by simp only [laws_toWordS.l0]; rw [if_neg (by omega)]) (Ev.now _)
  | succ d ih =>
    intro i x hi hlx ht
    refine Ev.step (f := fun k => (laws_toWord.f k (l.getD i [])).bind fun t => laws_toWordS.l0 k l (x.set i t) ((i + 1 : Nat) : Int)) (fun k => ?_) (Ev.bind (toWord_ev _ (hx _ (getD_mem (by omega)))) (ih (i + 1) _ (by omega) (by simpa using hlx) (takeW_set_succ (by omega) ht (getDW_some (by omega)))))
    simp only [laws_toWordS.l0]
    rw [if_pos (by omega), if_pos (by omega), rdL1]
    congr 1
    funext t
    rw [if_pos (by omega), w64s (by omega), Int.toNat_natCast]
theorem toWordS_ev (l : List (List Int)) (hl : l.length ≤ 1048576) (hx : ∀ x ∈ l, x.length ≤ 1048576) : Ev (fun k => laws_toWordS.f k l) l := by
  have e := toWordS_loop l hl hx l.length 0 (List.replicate ((l.length : Int) : Int).toNat []) (by omega) (by simp) (by simp)
  exact Ev.congr (fun k => by unfold laws_toWordS.f; rw [if_pos (by omega), if_pos (by omega)]; rfl) e
theorem eqWordS_loop (l : List (List Int)) (hl : l.length ≤ 1048576) (hx : ∀ x ∈ l, x.length ≤ 1048576) : ∀ d i, i + d = l.length → Ev (fun k => laws_eqWordS.l0 k l l (i : Int)) true := by
  intro d
  induction d with
  | zero =>
    intro i hi
    exact Ev.step (f := fun _ => some true) (fun k => by simp only [laws_eqWordS.l0]; rw [if_neg (by omega)]) (Ev.now _)
  | succ d ih =>
    intro i hi
    refine Ev.step (f := fun k => (laws_eqWord.f k (l.getD i []) (l.getD i [])).bind fun t => if t = true then laws_eqWordS.l0 k l l ((i + 1 : Nat) : Int) else some false) (fun k => ?_) (Ev.bind (eqWord_ev _ (hx _ (getD_mem (by omega)))) (Ev.congr (fun k => by rw [if_pos rfl]) (ih (i + 1) (by omega))))
    simp only [laws_eqWordS.l0]
    rw [if_pos (by omega), if_pos (by omega), if_pos (by omega), rdL2]
    congr 1
    funext t
    rw [w64s (by omega)]
theorem eqWordS_ev (l : List (List Int)) (hl : l.length ≤ 1048576) (hx : ∀ x ∈ l, x.length ≤ 1048576) : Ev (fun k => laws_eqWordS.f k l l) true :=
  Ev.congr (fun k => by unfold laws_eqWordS.f; rw [if_pos rfl]; rfl) (eqWordS_loop l hl hx l.length 0 (by omega))
theorem allW_at {p : List Int → Bool} {l : List (List Int)} {i : Nat} (h : i < l.length) : (l.take (i + 1)).all p = ((l.take i).all p && p (l.getD i [])) := by
  rw [List.take_add_one, List.all_append, List.getElem?_eq_getElem h]; simp [List.getD, h]
theorem allW_no {p : List Int → Bool} {l : List (List Int)} {i : Nat} (h : i < l.length) (ho : p (l.getD i []) = false) : l.all p = false := by
  rw [List.all_eq_false]
  exact ⟨_, getD_mem h, by rw [ho]; simp⟩
theorem okW_eq (b : Int) (l : List (List Int)) (x : List Int) : okW b l x = (isForW x b && x.length == (l.getD 0 []).length) := rfl
theorem slisted_loop (b : Int) (l : List (List Int)) (hl : l.length ≤ 1048576) (hx : ∀ x ∈ l, x.length ≤ 1048576) : ∀ d i, i + d = l.length → (l.take i).all (okW b l) = true → Ev (fun k => spec_l06Listed.l0 k b l (i : Int)) (if l.all (okW b l) = true then (if 300 < l.length then (3 : Int) else 0) else 1) := by
  intro d
  induction d with
  | zero =>
    intro i hi ha
    rw [List.take_of_length_le (by omega)] at ha
    rw [if_pos ha]
    refine Ev.step (f := fun _ => some (if 300 < l.length then (3 : Int) else 0)) (fun k => ?_) (Ev.now _)
    simp only [spec_l06Listed.l0]
    rw [if_neg (by omega)]
    by_cases h3 : 300 < l.length
    · rw [if_pos h3, if_pos (by omega)]
    · rw [if_neg h3, if_neg (by omega)]
  | succ d ih =>
    intro i hi ha
    have hlt : i < l.length := by omega
    have hs := sword (l.getD i []) b (hx _ (getD_mem hlt))
    have e0 : ∀ k, spec_l06Listed.l0 (k + 1) b l (i : Int) = (spec_l06Word.f k b (l.getD i [])).bind fun t => if t = true then (if ((l.getD i []).length : Int) = ((l.getD 0 []).length : Int) then spec_l06Listed.l0 k b l ((i + 1 : Nat) : Int) else some 1) else some 1 := by
      intro k
      simp only [spec_l06Listed.l0]
      rw [if_pos (by omega), if_pos (by omega), rdL2]
      congr 1
      funext t
      rw [if_pos (show (0 : Int) < (l.length : Int) by omega), w64s (by omega)]
      rfl
    refine Ev.step e0 (Ev.bind hs ?_)
    have ok := okW_eq b l (l.getD i [])
    by_cases hf : isForB (l.getD i []) b = true
    · have hf' : isForW (l.getD i []) b = true := hf
      rw [hf'] at ok
      by_cases hn : (l.getD i []).length = (l.getD 0 []).length
      · have ok2 : okW b l (l.getD i []) = true := by rw [ok, hn]; simp
        exact Ev.congr (fun k => by rw [if_pos hf, if_pos (by omega)]) (ih (i + 1) (by omega) (by rw [allW_at hlt, ha, ok2]; rfl))
      · have ok2 : okW b l (l.getD i []) = false := by rw [ok]; simpa using hn
        rw [if_neg (by rw [allW_no hlt ok2]; simp)]
        exact Ev.congr (fun k => by rw [if_pos hf, if_neg (by omega)]) (Ev.now 1)
    · have hf' : isForW (l.getD i []) b = false := by rw [Bool.not_eq_true] at hf; exact hf
      have ok2 : okW b l (l.getD i []) = false := by rw [ok, hf']; rfl
      rw [if_neg (by rw [allW_no hlt ok2]; simp)]
      exact Ev.congr (fun k => by rw [if_neg hf]) (Ev.now 1)
theorem slisted (b : Int) (l : List (List Int)) (hl : l.length ≤ 1048576) (hx : ∀ x ∈ l, x.length ≤ 1048576) : Ev (fun k => spec_l06Listed.f k b l) (listW b l []) := by
  have e := slisted_loop b l hl hx l.length 0 (by omega) (by simp)
  unfold listW
  rw [List.append_nil]
  by_cases hb : isBW b = true
  · rw [if_pos hb]
    refine Ev.congr (fun k => ?_) e
    unfold spec_l06Listed.f
    rw [sbase, Option.bind_some, if_pos (show isB b = true from hb)]
    rfl
  · rw [if_neg hb]
    refine Ev.congr (fun k => ?_) (Ev.now 2)
    unfold spec_l06Listed.f
    rw [sbase, Option.bind_some, if_neg (show ¬ isB b = true from hb)]
theorem ilist (b : Int) (l l2 : List (List Int)) (hl : l.length ≤ 1048576) (hl2 : l2.length ≤ 1048576) : impl_listCode.f b l l2 = some (listW b l l2) := by
  unfold impl_listCode.f; rw [if_pos ⟨hl, hl2⟩]
/-- what a code 0 says of a list -/
theorem listW_zero {b : Int} {l l2 : List (List Int)} (h : listW b l l2 = 0) : l.length ≤ 300 ∧ (l ++ l2).all (okW b (l ++ l2)) = true := by
  unfold listW at h
  by_cases hb : isBW b = true
  · rw [if_pos hb] at h
    by_cases ha : (l ++ l2).all (okW b (l ++ l2)) = true
    · rw [if_pos ha] at h
      by_cases h3 : 300 < l.length
      · rw [if_pos h3] at h; cases h
      · exact ⟨by omega, ha⟩
    · rw [if_neg ha] at h; cases h
  · rw [if_neg hb] at h; cases h
theorem okW_mem {b : Int} {l : List (List Int)} (h : l.all (okW b l) = true) {x : List Int} (hx : x ∈ l) : x.length = (l.getD 0 []).length ∧ 1 ≤ x.length ∧ x.length ≤ 7 ∧ ∀ n ∈ x, over b n = false := by
  have := List.all_eq_true.1 h x hx
  rw [okW_eq] at this
  unfold isForW at this
  simp only [Bool.and_eq_true, decide_eq_true_eq, beq_iff_eq, Bool.not_eq_true', List.any_eq_false] at this
  exact ⟨this.2, this.1.1.1, this.1.1.2, fun n hn => by have := this.1.2 n hn; simpa using this⟩

theorem sasked (b : Int) (l : List (List Int)) (w : List Int) (hl : l.length ≤ 1048576) (hx : ∀ x ∈ l, x.length ≤ 1048576) (hw : w.length ≤ 1048576) : Ev (fun k => spec_l06Asked.f k b l w) (listW b l [w]) := by
  have hs := slisted b l hl hx
  have hf := sword w b hw
  by_cases hb : isBW b = true
  · have h0 : ∀ k, spec_l06Asked.f k b l w = (spec_l06Word.f k b w).bind fun t => if t = true then (if (l.length : Int) > 0 then (if ((l.getD 0 []).length : Int) = (w.length : Int) then (spec_l06Listed.f k b l).bind fun t => some t else some 1) else (spec_l06Listed.f k b l).bind fun t => some t) else some 1 := by
      intro k
      unfold spec_l06Asked.f
      rw [sbase, Option.bind_some, if_pos (show isB b = true from hb)]
      congr 1
      funext t
      by_cases hl0 : (l.length : Int) > 0
      · first | (rw [if_pos hl0, if_pos hl0, if_pos hl0]; rfl) | (rw [if_pos hl0, if_pos hl0]; rfl)
      · rw [if_neg hl0, if_neg hl0]
    refine Ev.congr h0 (Ev.bind hf ?_)
    by_cases hfw : isForB w b = true
    · have hfw' : isForW w b = true := hfw
      by_cases hl0 : 0 < l.length
      · have e0 : (l ++ [w]).getD 0 [] = l.getD 0 [] := by
          simp only [List.getD]; rw [List.getElem?_append_left hl0]
        by_cases hn : (l.getD 0 []).length = w.length
        · have e1 : listW b l [w] = listW b l [] := by
            have hok : okW b (l ++ [w]) = okW b (l ++ []) := by funext x; rw [okW_eq, okW_eq, e0, List.append_nil]
            unfold listW
            rw [hok, List.all_append, List.append_nil]
            have : [w].all (okW b l) = true := by
              simp only [List.all_cons, List.all_nil, Bool.and_true]
              rw [okW_eq, hfw', Bool.true_and]
              exact beq_iff_eq.mpr hn.symm
            rw [this, Bool.and_true]
          rw [e1]
          refine Ev.congr (fun k => ?_) hs
          rw [if_pos hfw, if_pos (by omega), if_pos (by omega)]
          cases spec_l06Listed.f k b l <;> rfl
        · have e1 : listW b l [w] = 1 := by
            unfold listW
            rw [if_pos hb, List.all_append]
            have : [w].all (okW b (l ++ [w])) = false := by
              simp only [List.all_cons, List.all_nil, Bool.and_true]
              rw [okW_eq, e0, hfw', Bool.true_and]
              exact beq_eq_false_iff_ne.mpr (fun e => hn e.symm)
            rw [this, Bool.and_false, if_neg (by simp)]
          rw [e1]
          exact Ev.congr (fun k => by rw [if_pos hfw, if_pos (by omega), if_neg (by omega)]) (Ev.now 1)
      · have el : l = [] := List.eq_nil_of_length_eq_zero (by omega)
        have e1 : listW b l [w] = listW b l [] := by
          subst el
          unfold listW
          have : ([] ++ [w]).all (okW b ([] ++ [w])) = true := by simp [okW_eq, hfw']
          rw [this]
          simp
        rw [e1]
        refine Ev.congr (fun k => ?_) hs
        rw [if_pos hfw, if_neg (by omega)]
        cases spec_l06Listed.f k b l <;> rfl
    · have hfw' : isForW w b = false := by rw [Bool.not_eq_true] at hfw; exact hfw
      have e1 : listW b l [w] = 1 := by
        unfold listW
        rw [if_pos hb, List.all_append]
        have : [w].all (okW b (l ++ [w])) = false := by
          simp only [List.all_cons, List.all_nil, Bool.and_true]
          rw [okW_eq, hfw', Bool.false_and]
        rw [this, Bool.and_false, if_neg (by simp)]
      rw [e1]
      exact Ev.congr (fun k => by rw [if_neg hfw]) (Ev.now 1)
  · have e1 : listW b l [w] = listW b l [] := by
      unfold listW; rw [if_neg hb, if_neg hb]
    rw [e1]
    refine Ev.congr (fun k => ?_) hs
    unfold spec_l06Asked.f
    rw [sbase, Option.bind_some, if_neg (show ¬ isB b = true from hb)]
    cases spec_l06Listed.f k b l <;> rfl
/-- what a code 0 says of a list and a word -/
theorem listW_word {b : Int} {l : List (List Int)} {w : List Int} (h : listW b l [w] = 0) : l.length ≤ 300 ∧ w.length ≤ 7 ∧ (∀ x ∈ l, x.length = w.length) := by
  obtain ⟨h3, hall⟩ := listW_zero h
  have hw := okW_mem hall (show w ∈ l ++ [w] by simp)
  refine ⟨h3, hw.2.2.1, fun x hx => ?_⟩
  have := okW_mem hall (show x ∈ l ++ [w] by simp [hx])
  omega

/-- a word lies near enough -/
def kp (t : Int) (w x : List Int) : Bool := !decide (t < ap x w)
def repF : List (List Int) → List Int × Int
  | [] => ([], 6)
  | [x] => (x, 0)
  | _ :: _ :: _ => ([], 8)
def repR (b : Int) (l : List (List Int)) (w : List Int) (t : Int) : List Int × Int :=
  if listW b l [w] = 0 then (if 0 ≤ t ∧ t ≤ 7 then repF (l.filter (kp t w)) else ([], 2)) else ([], listW b l [w])
theorem srep_two (l : List (List Int)) (w : List Int) (t : Int) (hl : l.length ≤ 1048576) (hw : w.length ≤ 7) (ww : ∀ n ∈ w, (Lit.int .u16 n).wf = true) (hx : ∀ x ∈ l, x.length = w.length ∧ ∀ n ∈ x, (Lit.int .u16 n).wf = true) :
    ∀ (d i b : Nat), i + d = l.length → b < l.length → Ev (fun k => spec_RepairWith.l0 k l w t (b : Int) (i : Int)) (repF (l.getD b [] :: (l.drop i).filter (kp t w))) := by
  intro d
  induction d with
  | zero =>
    intro i b hi hb
    rw [List.drop_eq_nil_of_le (by omega), List.filter_nil]
    have hxb := (hx _ (getD_mem hb)).1
    refine Ev.step (f := fun _ => some (l.getD b [], 0)) (fun k => ?_) (Ev.now _)
    simp only [spec_RepairWith.l0]
    rw [if_neg (by omega), if_neg (by omega), Option.bind_some, if_pos (by omega), if_pos (by omega), rdL2, if_pos (by simp only [List.length_nil]; omega), List.nil_append]
  | succ d ih =>
    intro i b hi hb
    have hxi := hx _ (getD_mem (show i < l.length by omega))
    have hd : l.drop i = l.getD i [] :: l.drop (i + 1) := by rw [List.drop_eq_getElem_cons (by omega)]; simp [List.getD, show i < l.length by omega]
    rw [hd]
    refine Ev.step (f := fun k => (spec_l06Apart.f k (l.getD i []) w).bind fun u => if u > t then spec_RepairWith.l0 k l w t (b : Int) ((i + 1 : Nat) : Int) else some ([], 8)) (fun k => ?_) (Ev.bind (sap _ _ hxi.2 ww hxi.1 (by omega)) ?_)
    · simp only [spec_RepairWith.l0]
      rw [if_pos (by omega), if_pos (by omega), rdL2]
      congr 1
      funext u
      rw [if_pos (show (b : Int) ≥ 0 by omega), w64s (by omega)]
    · by_cases hv : t < ap (l.getD i []) w
      · have hk : kp t w (l.getD i []) = false := by unfold kp; rw [decide_eq_true hv]; rfl
        rw [List.filter_cons_of_neg (by rw [hk]; simp)]
        exact Ev.congr (fun k => if_pos hv) (ih (i + 1) b (by omega) hb)
      · have hk : kp t w (l.getD i []) = true := by unfold kp; rw [decide_eq_false hv]; rfl
        rw [List.filter_cons_of_pos hk]
        exact Ev.congr (fun k => if_neg hv) (Ev.now _)
theorem srep_one (l : List (List Int)) (w : List Int) (t : Int) (hl : l.length ≤ 1048576) (hw : w.length ≤ 7) (ww : ∀ n ∈ w, (Lit.int .u16 n).wf = true) (hx : ∀ x ∈ l, x.length = w.length ∧ ∀ n ∈ x, (Lit.int .u16 n).wf = true) :
    ∀ (d i : Nat), i + d = l.length → Ev (fun k => spec_RepairWith.l0 k l w t (-1) (i : Int)) (repF ((l.drop i).filter (kp t w))) := by
  intro d
  induction d with
  | zero =>
    intro i hi
    rw [List.drop_eq_nil_of_le (by omega), List.filter_nil]
    refine Ev.step (f := fun _ => some ([], 6)) (fun k => ?_) (Ev.now _)
    simp only [spec_RepairWith.l0]
    rw [if_neg (by omega), if_pos (by omega)]
  | succ d ih =>
    intro i hi
    have hxi := hx _ (getD_mem (show i < l.length by omega))
    have hd : l.drop i = l.getD i [] :: l.drop (i + 1) := by rw [List.drop_eq_getElem_cons (by omega)]; simp [List.getD, show i < l.length by omega]
    rw [hd]
    refine Ev.step (f := fun k => (spec_l06Apart.f k (l.getD i []) w).bind fun u => if u > t then spec_RepairWith.l0 k l w t (-1) ((i + 1 : Nat) : Int) else spec_RepairWith.l0 k l w t (i : Int) ((i + 1 : Nat) : Int)) (fun k => ?_) (Ev.bind (sap _ _ hxi.2 ww hxi.1 (by omega)) ?_)
    · simp only [spec_RepairWith.l0]
      rw [if_pos (by omega), if_pos (by omega), rdL2]
      congr 1
      funext u
      rw [if_neg (show ¬ (-1 : Int) ≥ 0 by omega), w64s (by omega)]
    · by_cases hv : t < ap (l.getD i []) w
      · have hk : kp t w (l.getD i []) = false := by unfold kp; rw [decide_eq_true hv]; rfl
        rw [List.filter_cons_of_neg (by rw [hk]; simp)]
        exact Ev.congr (fun k => if_pos hv) (ih (i + 1) (by omega))
      · have hk : kp t w (l.getD i []) = true := by unfold kp; rw [decide_eq_false hv]; rfl
        rw [List.filter_cons_of_pos hk]
        exact Ev.congr (fun k => if_neg hv) (srep_two l w t hl hw ww hx d (i + 1) i (by omega) (by omega))
theorem srep (b : Int) (l : List (List Int)) (w : List Int) (t : Int) (hl : l.length ≤ 1048576) (hx : ∀ x ∈ l, x.length ≤ 1048576 ∧ ∀ n ∈ x, (Lit.int .u16 n).wf = true) (hw : w.length ≤ 1048576) (ww : ∀ n ∈ w, (Lit.int .u16 n).wf = true) : Ev (fun k => spec_RepairWith.f k b l w t) (repR b l w t) := by
  have ha := sasked b l w hl (fun x m => (hx x m).1) hw
  have hf : ∀ k, spec_RepairWith.f k b l w t = (spec_l06Asked.f k b l w).bind fun c => if c = 0 then (spec_l00In.f t 0 7).bind fun u => spec_RepairWith.j0 k l w t c (!u) else spec_RepairWith.j0 k l w t c false := fun k => rfl
  unfold repR
  by_cases hc : listW b l [w] = 0
  · obtain ⟨h3, h7, hlen⟩ := listW_word hc
    rw [if_pos hc]
    rw [hc] at ha
    refine Ev.congr hf (Ev.bind ha ?_)
    by_cases ht : 0 ≤ t ∧ t ≤ 7
    · rw [if_pos ht]
      refine Ev.congr (fun k => by rw [if_pos rfl, sin, decide_eq_true ht, Option.bind_some]) ?_
      refine Ev.step (f := fun k => spec_RepairWith.j1 k l w t 0) (fun k => by simp only [spec_RepairWith.j0]; rw [if_neg (by simp)]) ?_
      refine Ev.step (f := fun k => spec_RepairWith.l0 k l w t (-1) 0) (fun k => by simp only [spec_RepairWith.j1]; rw [if_pos trivial]) ?_
      have e := srep_one l w t (by omega) h7 ww (fun x m => ⟨hlen x m, (hx x m).2⟩) l.length 0 (by omega)
      rw [List.drop_zero] at e
      exact e
    · rw [if_neg ht]
      refine Ev.congr (fun k => by rw [if_pos rfl, sin, decide_eq_false ht, Option.bind_some]) ?_
      refine Ev.step (f := fun k => spec_RepairWith.j1 k l w t 2) (fun k => by simp only [spec_RepairWith.j0, Bool.not_false, if_true]) ?_
      exact Ev.step (f := fun _ => some ([], 2)) (fun k => by simp only [spec_RepairWith.j1]; rw [if_neg (by omega)]) (Ev.now _)
  · rw [if_neg hc]
    refine Ev.congr hf (Ev.bind ha ?_)
    refine Ev.congr (fun k => by rw [if_neg hc]) ?_
    refine Ev.step (f := fun k => spec_RepairWith.j1 k l w t (listW b l [w])) (fun k => by simp only [spec_RepairWith.j0, Bool.false_eq_true, if_false]) ?_
    exact Ev.step (f := fun _ => some ([], listW b l [w])) (fun k => by simp only [spec_RepairWith.j1]; rw [if_neg hc]) (Ev.now _)

end Go.Proofs.Ytabdpdnofljkcaa.Given
