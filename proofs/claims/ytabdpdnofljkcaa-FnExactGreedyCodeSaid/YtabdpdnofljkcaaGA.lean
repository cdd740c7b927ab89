/- The greedy choice of words, and what the reference makes. -/
import Derived.Test.YtabdpdnofljkcaaProg
import Derived.Below
import Derived.Deep.Draws
import Derived.Deep.AppendLies
import Derived.Maps.AppendAt
import Derived.OwnWalk
import Derived.Laws.BytesArg
import Derived.Laws.MakeOwn
import Derived.Laws.OwnMore
import Derived.Deep.OwnRows
import Derived.Tactics
import Derived.Lib.ConvBytes
import Derived.Laws.Slices
import Derived.WalkKit
import Derived.KernelRfl
import Derived.RowKit3
import Derived.Deep.LoopGhost
import Derived.Deep.QuietTactic
import Derived.BigQuiet
import Derived.WideLaws
import Derived.Deep.DeepCutAuto
import Derived.Deep.CutBlock
import Derived.Deep.RegionHeld3
import Derived.Laws.Rows
import Derived.Lib.AppendStr
import Derived.ArgAppend
import Derived.Laws.IdiomCopy
import Derived.OrdersHeld
import Derived.Laws.BitsLemmas
import Derived.RowKit
import Derived.Lib.Hide
import Derived.WalkSpells
import Derived.Test.YtabdpdnofljkcaaWWords
import Derived.Test.YtabdpdnofljkcaaWLast
import Derived.Test.YtabdpdnofljkcaaWTab
import Derived.Test.YtabdpdnofljkcaaWFour
import Derived.Test.YtabdpdnofljkcaaWQPut
import Derived.Test.YtabdpdnofljkcaaWApart
import Derived.Test.YtabdpdnofljkcaaWArr
import Derived.Test.YtabdpdnofljkcaaWZeros
import Derived.Test.YtabdpdnofljkcaaWFoot
import Derived.Test.YtabdpdnofljkcaaWKept
import Derived.Test.YtabdpdnofljkcaaWShare
import Derived.Test.YtabdpdnofljkcaaWN
import Derived.Test.YtabdpdnofljkcaaWFootNe
import Derived.Test.YtabdpdnofljkcaaWAt
import Derived.Test.YtabdpdnofljkcaaWEqStruct
import Derived.Test.YtabdpdnofljkcaaWRepsOne
import Derived.Test.YtabdpdnofljkcaaWInv
import Derived.Test.YtabdpdnofljkcaaWInvWords
import Derived.Test.YtabdpdnofljkcaaWGuard
import Derived.Test.YtabdpdnofljkcaaWNEv
import Derived.Test.YtabdpdnofljkcaaWMore
import Derived.Test.YtabdpdnofljkcaaN1
import Derived.Test.YtabdpdnofljkcaaPFnExactGreedyCodex2
import Derived.Test.YtabdpdnofljkcaaPFnExactGreedyCodex3
import Derived.Test.YtabdpdnofljkcaaRAPTx1
namespace Go.Proofs.Ytabdpdnofljkcaa.Given
open Go.RowKit Go.Proofs.YtabdpdnofljkcaaW.PrintWords Go.Proofs.YtabdpdnofljkcaaW.PrintLast Go.Proofs.YtabdpdnofljkcaaW.PrintMore Go.Proofs.Ytabdpdnofljkcaa.NimF Go.Proofs.Ytabdpdnofljkcaa.NimGo
set_option linter.unusedVariables false
set_option linter.unusedSimpArgs false
open Go.Proofs.Ytabdpdnofljkcaa.PFnExactGreedyCode
open Go.Proofs.Ytabdpdnofljkcaa.RAPT
open Go.Proofs.Ytabdpdnofljkcaa.NimF
open Go.Proofs.Ytabdpdnofljkcaa.NimGo
def isB (b : Int) : Bool := b == 2 || b == 4 || b == 16 || b == 256
theorem sbase (b : Int) : spec_l06Base.f b = some (isB b) := by
  unfold spec_l06Base.f isB
  by_cases h2 : b = 2
  · subst h2; rfl
  by_cases h4 : b = 4
  · subst h4; rfl
  by_cases h16 : b = 16
  · subst h16; rfl
  rw [if_neg h2, if_neg h4, if_neg h16]
  have e2 : (b == 2) = false := beq_eq_false_iff_ne.mpr h2
  have e4 : (b == 4) = false := beq_eq_false_iff_ne.mpr h4
  have e16 : (b == 16) = false := beq_eq_false_iff_ne.mpr h16
  rw [e2, e4, e16]; rfl
theorem ibase (b : Int) : impl_isBase.f b = some (isB b) := sbase b
theorem isB_cases {b : Int} (h : isB b = true) : b = 2 ∨ b = 4 ∨ b = 16 ∨ b = 256 := by
  unfold isB at h
  simp only [Bool.or_eq_true, beq_iff_eq] at h
  omega
theorem sin (a b c : Int) : spec_l00In.f a b c = some (decide (b ≤ a ∧ a ≤ c)) := by
  unfold spec_l00In.f
  by_cases h : a ≥ b
  · rw [if_pos h]; congr 1; rw [Bool.eq_iff_iff]; simp only [decide_eq_true_eq]; omega
  · rw [if_neg h]; congr 1; symm; exact decide_eq_false (by omega)
theorem iin (a b c : Int) : impl_within.f a b c = some (decide (b ≤ a ∧ a ≤ c)) := by
  unfold impl_within.f
  by_cases h : b ≤ a
  · rw [if_pos h]; congr 1; rw [Bool.eq_iff_iff]; simp only [decide_eq_true_eq]; omega
  · rw [if_neg h]; congr 1; symm; exact decide_eq_false (by omega)

/-- a number times itself so often, as the machine does -/
def mulN (b : Int) : Nat → Int → Int
  | 0, o => o
  | n + 1, o => mulN b n (wrap64 (o * b))
theorem sall (b : Int) : ∀ (n : Nat) (o : Int), n ≤ 100 → Ev (fun k => spec_l06All.l0 k b (n : Int) o) (mulN b n o) := by
  intro n
  induction n with
  | zero => intro o _; exact Ev.step (f := fun _ => some o) (fun k => by simp only [spec_l06All.l0]; rw [if_neg (by omega)]) (Ev.now _)
  | succ n ih =>
    intro o hn
    refine Ev.step (f := fun k => spec_l06All.l0 k b (n : Int) (wrap64 (o * b))) (fun k => ?_) (ih _ (by omega))
    simp only [spec_l06All.l0]
    have : wrap64 (((n + 1 : Nat) : Int) - 1) = (n : Int) := by unfold wrap64; omega
    rw [if_pos (by omega), this]
theorem iall (b : Int) (m : Nat) (hm : m ≤ 100) : ∀ (n i : Nat) (o : Int), i + n = m → Ev (fun k => impl_howMany.l0 k b o (m : Int) (i : Int)) (mulN b n o) := by
  intro n
  induction n with
  | zero => intro i o _; exact Ev.step (f := fun _ => some o) (fun k => by simp only [impl_howMany.l0]; rw [if_neg (by omega)]) (Ev.now _)
  | succ n ih =>
    intro i o hn
    refine Ev.step (f := fun k => impl_howMany.l0 k b (wrap64 (o * b)) (m : Int) ((i + 1 : Nat) : Int)) (fun k => ?_) (ih _ _ (by omega))
    simp only [impl_howMany.l0]
    rw [if_pos (by omega), w64s (by omega)]
/-- the letters of a place, the last one first -/
def atN (b : Int) : Nat → Int → List Int → List Int
  | 0, _, x => x
  | n + 1, p, x => atN b n (wrap64 (Int.tdiv p b)) (x.set n (IntKind.u16.wrap (Int.tmod p b)))
theorem atN_length (b : Int) : ∀ (n : Nat) (p : Int) (x : List Int), (atN b n p x).length = x.length := by
  intro n
  induction n with
  | zero => intro p x; rfl
  | succ n ih => intro p x; show (atN b n _ _).length = _; rw [ih]; simp
theorem sat (b : Int) (hb : b ≠ 0) : ∀ (n : Nat) (p : Int) (x : List Int), n ≤ 100 → n ≤ x.length → Ev (fun k => spec_l06At.l0 k b p x ((n : Int) - 1)) (atN b n p x) := by
  intro n
  induction n with
  | zero => intro p x _ _; exact Ev.step (f := fun _ => some x) (fun k => by simp only [spec_l06At.l0]; rw [if_neg (by omega)]) (Ev.now _)
  | succ n ih =>
    intro p x hn hx
    refine Ev.step (f := fun k => spec_l06At.l0 k b (wrap64 (Int.tdiv p b)) (x.set n (IntKind.u16.wrap (Int.tmod p b))) ((n : Int) - 1)) (fun k => ?_) (ih _ _ (by omega) (by simp; omega))
    simp only [spec_l06At.l0]
    have e : ((n + 1 : Nat) : Int) - 1 = (n : Int) := by omega
    have w : wrap64 ((n : Int) - 1) = (n : Int) - 1 := by unfold wrap64; omega
    rw [e, if_pos (by omega), if_neg hb, if_pos (by omega), if_pos (by omega), w, Int.toNat_natCast]
theorem iat (b : Int) (hb : b ≠ 0) : ∀ (n : Nat) (p : Int) (x : List Int), n ≤ 100 → n ≤ x.length → Ev (fun k => impl_atPlace.l0 k b p x ((n : Int) - 1)) (atN b n p x) := by
  intro n
  induction n with
  | zero => intro p x _ _; exact Ev.step (f := fun _ => some x) (fun k => by simp only [impl_atPlace.l0]; rw [if_neg (by omega)]) (Ev.now _)
  | succ n ih =>
    intro p x hn hx
    refine Ev.step (f := fun k => impl_atPlace.l0 k b (wrap64 (Int.tdiv p b)) (x.set n (IntKind.u16.wrap (Int.tmod p b))) ((n : Int) - 1)) (fun k => ?_) (ih _ _ (by omega) (by simp; omega))
    simp only [impl_atPlace.l0]
    have e : ((n + 1 : Nat) : Int) - 1 = (n : Int) := by omega
    have w : wrap64 ((n : Int) - 1) = (n : Int) - 1 := by unfold wrap64; omega
    rw [e, if_pos (by omega), if_neg hb, if_pos (by omega), if_pos (by omega), w, Int.toNat_natCast]
theorem sat_ev (b p : Int) (n : Nat) (hb : b ≠ 0) (hn : n ≤ 100) : ∃ K, ∀ k, K ≤ k → spec_l06At.f k b (n : Int) p = some (atN b n p (List.replicate n 0)) := by
  obtain ⟨K, h⟩ := sat b hb n p (List.replicate n 0) hn (by simp)
  refine ⟨K, fun k hk => ?_⟩
  unfold spec_l06At.f
  have w : wrap64 ((n : Int) - 1) = (n : Int) - 1 := by unfold wrap64; omega
  rw [if_pos (by omega), if_pos (by omega), w, Int.toNat_natCast]
  exact h k hk
theorem iat_ev (b p : Int) (n : Nat) (hb : b ≠ 0) (hn : n ≤ 100) : ∃ K, ∀ k, K ≤ k → impl_atPlace.f k b (n : Int) p = some (atN b n p (List.replicate n 0)) := by
  obtain ⟨K, h⟩ := iat b hb n p (List.replicate n 0) hn (by simp)
  refine ⟨K, fun k hk => ?_⟩
  unfold impl_atPlace.f
  have w : wrap64 ((n : Int) - 1) = (n : Int) - 1 := by unfold wrap64; omega
  rw [if_pos (by omega), if_pos (by omega), w, Int.toNat_natCast]
  exact h k hk

def weight (l : List Int) : Nat := l.countP (fun x => x != 0)
theorem weight_zero {x : Int} (l : List Int) (h : x = 0) : weight (x :: l) = weight l := by unfold weight; rw [List.countP_cons]; simp [h]
theorem weight_one {x : Int} (l : List Int) (h : ¬ x = 0) : weight (x :: l) = weight l + 1 := by unfold weight; rw [List.countP_cons]; simp [h]
theorem weight_le (l : List Int) : weight l ≤ l.length := List.countP_le_length
theorem impl_weight_loop (l : List Int) (h : l.length ≤ 1048576) : ∀ d i (n : Nat), i + d = l.length → n ≤ i → Ev (fun k => impl_WeightOf.l0 k (n : Int) l (l.length : Int) (i : Int)) ((n + weight (l.drop i) : Nat) : Int) := by
  intro d
  induction d with
  | zero =>
    intro i n hi hn
    rw [List.drop_eq_nil_of_le (by omega)]
    exact Ev.step (f := fun _ => some (n : Int)) (fun k => by simp only [impl_WeightOf.l0]; rw [if_neg (by omega)]) (Ev.now _)
  | succ d ih =>
    intro i n hi hn
    have hd : l.drop i = l[i] :: l.drop (i + 1) := List.drop_eq_getElem_cons (by omega)
    have he : l.getD i 0 = l[i] := by simp [List.getD, show i < l.length by omega]
    by_cases hz : l[i] = 0
    · have hw : weight (l.drop i) = weight (l.drop (i + 1)) := by rw [hd, weight_zero _ hz]
      rw [hw]
      refine Ev.step (f := fun k => impl_WeightOf.l0 k (n : Int) l (l.length : Int) ((i + 1 : Nat) : Int)) (fun k => ?_) (ih (i + 1) n (by omega) (by omega))
      simp only [impl_WeightOf.l0]
      rw [if_pos (by omega), if_pos (by omega), if_pos (by omega), rd_nat, he, if_pos hz, w64s (by omega)]
    · have hw : n + weight (l.drop i) = n + 1 + weight (l.drop (i + 1)) := by rw [hd, weight_one _ hz]; omega
      rw [hw]
      refine Ev.step (f := fun k => impl_WeightOf.l0 k ((n + 1 : Nat) : Int) l (l.length : Int) ((i + 1 : Nat) : Int)) (fun k => ?_) (ih (i + 1) (n + 1) (by omega) (by omega))
      simp only [impl_WeightOf.l0]
      rw [if_pos (by omega), if_pos (by omega), if_pos (by omega), rd_nat, he, if_neg hz, w64s (by omega), w64s (by omega)]
theorem impl_weight (l : List Int) (h : l.length ≤ 1048576) : ∃ K, ∀ k, K ≤ k → impl_WeightOf.f k l = some ((weight l : Nat) : Int) := by
  have e := impl_weight_loop l h l.length 0 0 (by omega) (by omega)
  rw [Nat.zero_add, List.drop_zero] at e
  exact e

def xorl (a b : List Int) : List Int := List.zipWith (fun x y => Go.bits .xor .u16 x y) a b
theorem xorl_length {a b : List Int} (h : a.length = b.length) : (xorl a b).length = a.length := by
  unfold xorl; rw [List.length_zipWith]; omega
theorem xorl_drop {a b : List Int} {i : Nat} (ha : i < a.length) (hb : i < b.length) : (xorl a b).drop i = Go.bits .xor .u16 (a.getD i 0) (b.getD i 0) :: (xorl a b).drop (i + 1) := by
  have h : i < (xorl a b).length := by unfold xorl; rw [List.length_zipWith]; omega
  rw [List.drop_eq_getElem_cons h]
  congr 1
  simp [xorl, List.getD, ha, hb]
theorem plus_loop (a b : List Int) (hl : a.length = b.length) (h7 : a.length ≤ 1048576) : ∀ (d i : Nat) (x : List Int), i + d = a.length → x.length = i → Ev (fun k => impl_Word_plus.l0 k b x a (a.length : Int) (i : Int)) (x ++ (xorl a b).drop i) := by
  intro d
  induction d with
  | zero =>
    intro i x hi hx
    rw [List.drop_eq_nil_of_le (by rw [xorl_length hl]; omega), List.append_nil]
    exact Ev.step (f := fun _ => some x) (fun k => by simp only [impl_Word_plus.l0]; rw [if_neg (by omega)]) (Ev.now _)
  | succ d ih =>
    intro i x hi hx
    have e := ih (i + 1) (x ++ [Go.bits .xor .u16 (a.getD i 0) (b.getD i 0)]) (by omega) (by simp [hx])
    rw [xorl_drop (by omega) (by omega)]
    rw [List.append_assoc, List.singleton_append] at e
    refine Ev.step (f := fun k => impl_Word_plus.l0 k b (x ++ [Go.bits .xor .u16 (a.getD i 0) (b.getD i 0)]) a (a.length : Int) ((i + 1 : Nat) : Int)) (fun k => ?_) e
    simp only [impl_Word_plus.l0]
    rw [if_pos (by omega), if_pos (by omega), if_pos (by omega), if_pos (by omega), if_pos (by omega), rd_nat, rd_nat, w64s (by omega)]
theorem plus_ev (a b : List Int) (hl : a.length = b.length) (h7 : a.length ≤ 1048576) : ∃ K, ∀ k, K ≤ k → impl_Word_plus.f k a b = some (xorl a b) := by
  have e := plus_loop a b hl h7 a.length 0 [] (by omega) rfl
  rw [List.nil_append, List.drop_zero] at e
  exact e

theorem xor_zero_iff {x y : Int} (hx : (Lit.int .u16 x).wf = true) (hy : (Lit.int .u16 y).wf = true) : Go.bits .xor .u16 x y = 0 ↔ x = y := by
  obtain ⟨a, rfl, ha⟩ := wf_u16 hx
  obtain ⟨b, rfl, hb⟩ := wf_u16 hy
  rw [xor16 ha hb]
  constructor
  · intro h
    have : a ^^^ b = 0 := by omega
    rw [xor_eq_zero this]
  · intro h
    have : a = b := by omega
    rw [this, Nat.xor_self]; rfl
theorem getD_wf {l : List Int} (h : ∀ x ∈ l, (Lit.int .u16 x).wf = true) {i : Nat} (hi : i < l.length) : (Lit.int .u16 (l.getD i 0)).wf = true := by
  have e : l.getD i 0 = l[i] := by simp [List.getD, hi]
  rw [e]; exact h _ (List.getElem_mem hi)
theorem apart_loop (a b : List Int) (wa : ∀ x ∈ a, (Lit.int .u16 x).wf = true) (wb : ∀ x ∈ b, (Lit.int .u16 x).wf = true) (hl : a.length = b.length) (h7 : a.length ≤ 1048576) :
    ∀ (d i n : Nat), i + d = a.length → n ≤ i → Ev (fun k => spec_l06Apart.l0 k a b (n : Int) (i : Int)) ((n + weight ((xorl a b).drop i) : Nat) : Int) := by
  intro d
  induction d with
  | zero =>
    intro i n hi hn
    rw [List.drop_eq_nil_of_le (by rw [xorl_length hl]; omega)]
    exact Ev.step (f := fun _ => some (n : Int)) (fun k => by simp only [spec_l06Apart.l0]; rw [if_neg (by omega)]) (Ev.now _)
  | succ d ih =>
    intro i n hi hn
    have hz := xor_zero_iff (getD_wf wa (show i < a.length by omega)) (getD_wf wb (show i < b.length by omega))
    by_cases hv : a.getD i 0 = b.getD i 0
    · have hw : n + weight ((xorl a b).drop i) = n + weight ((xorl a b).drop (i + 1)) := by rw [xorl_drop (by omega) (by omega), weight_zero _ (hz.2 hv)]
      rw [hw]
      refine Ev.step (f := fun k => spec_l06Apart.l0 k a b (n : Int) ((i + 1 : Nat) : Int)) (fun k => ?_) (ih (i + 1) n (by omega) (by omega))
      simp only [spec_l06Apart.l0]
      rw [if_pos (by omega), if_pos (by omega), if_pos (by omega), rd_nat, rd_nat, if_pos hv, w64s (by omega)]
    · have hw : n + weight ((xorl a b).drop i) = n + 1 + weight ((xorl a b).drop (i + 1)) := by rw [xorl_drop (by omega) (by omega), weight_one _ (fun e => hv (hz.1 e))]; omega
      rw [hw]
      refine Ev.step (f := fun k => spec_l06Apart.l0 k a b ((n + 1 : Nat) : Int) ((i + 1 : Nat) : Int)) (fun k => ?_) (ih (i + 1) (n + 1) (by omega) (by omega))
      simp only [spec_l06Apart.l0]
      rw [if_pos (by omega), if_pos (by omega), if_pos (by omega), rd_nat, rd_nat, if_neg hv, w64s (by omega), w64s (by omega)]

/-- in how many numbers two words differ -/
def ap (a b : List Int) : Int := ((weight (xorl a b) : Nat) : Int)
theorem sap (a b : List Int) (wa : ∀ x ∈ a, (Lit.int .u16 x).wf = true) (wb : ∀ x ∈ b, (Lit.int .u16 x).wf = true) (hl : a.length = b.length) (h : a.length ≤ 1048576) : Ev (fun k => spec_l06Apart.f k a b) (ap a b) := by
  have e := apart_loop a b wa wb hl h a.length 0 0 (by omega) (by omega)
  rw [Nat.zero_add, List.drop_zero] at e
  exact e
theorem iap (a b : List Int) (hl : a.length = b.length) (h : a.length ≤ 1048576) : Ev (fun k => impl_Word_apart.f k a b) (ap a b) := by
  unfold impl_Word_apart.f
  refine Ev.bind (plus_ev a b hl h) ?_
  refine Ev.congr (fun k => ?_) (impl_weight (xorl a b) (by rw [xorl_length hl]; omega))
  cases impl_WeightOf.f k (xorl a b) <;> rfl

/-- a word lies too near another -/
def near (a : Int) (w v : List Int) : Bool := decide (ap w v < a)
def wordAt (b : Int) (n p : Nat) : List Int := atN b n (p : Int) (List.replicate n 0)
theorem wordAt_length (b : Int) (n p : Nat) : (wordAt b n p).length = n := by unfold wordAt; rw [atN_length]; simp
/-- the greedy choice, from a place on -/
def grd (b a : Int) (n : Nat) : Nat → Nat → List (List Int) → List (List Int) × Int
  | 0, _, out => (out, 0)
  | d + 1, p, out => if out.any (near a (wordAt b n p)) then grd b a n d (p + 1) out else if out.length = 300 then ([], 7) else grd b a n d (p + 1) (out ++ [wordAt b n p])
def greedy (b len a : Int) : List (List Int) × Int :=
  if isB b = true ∧ (1 ≤ len ∧ len ≤ 7) ∧ (1 ≤ a ∧ a ≤ len) then (if mulN b len.toNat 1 > 5000 then ([], 3) else grd b a len.toNat (mulN b len.toNat 1).toNat 0 []) else ([], 2)
theorem wf_tmod (x b : Int) : (Lit.int .u16 (IntKind.u16.wrap (Int.tmod x b))).wf = true := by
  have : 0 ≤ IntKind.u16.wrap (Int.tmod x b) ∧ IntKind.u16.wrap (Int.tmod x b) < 65536 := by
    rw [IntKind.wrap_u16]; omega
  simp [Lit.wf, IntKind.min, IntKind.max, IntKind.bits, IntKind.signed]
  omega
theorem atN_wf (b : Int) : ∀ (n : Nat) (p : Int) (x : List Int), (∀ y ∈ x, (Lit.int .u16 y).wf = true) → ∀ y ∈ atN b n p x, (Lit.int .u16 y).wf = true := by
  intro n
  induction n with
  | zero => intro p x h; exact h
  | succ n ih =>
    intro p x h
    refine ih _ _ ?_
    intro y hy
    rcases List.mem_or_eq_of_mem_set hy with h1 | h1
    · exact h y h1
    · rw [h1]; exact wf_tmod _ _
theorem wordAt_wf (b : Int) (n p : Nat) : ∀ y ∈ wordAt b n p, (Lit.int .u16 y).wf = true := by
  refine atN_wf b n _ _ ?_
  intro y hy
  rw [List.eq_of_mem_replicate hy]
  rfl
theorem ap_comm {a b : List Int} (wa : ∀ x ∈ a, (Lit.int .u16 x).wf = true) (wb : ∀ x ∈ b, (Lit.int .u16 x).wf = true) (hl : a.length = b.length) : ap a b = ap b a := by
  have : xorl a b = xorl b a := by
    unfold xorl
    apply List.ext_getElem
    · simp [hl]
    · intro i h1 h2
      simp only [List.length_zipWith] at h1 h2
      simp only [List.getElem_zipWith]
      obtain ⟨x, hx, hx2⟩ := wf_u16 (wa _ (List.getElem_mem (show i < a.length by omega)))
      obtain ⟨y, hy, hy2⟩ := wf_u16 (wb _ (List.getElem_mem (show i < b.length by omega)))
      rw [hx, hy, xor16 hx2 hy2, xor16 hy2 hx2, Nat.xor_comm]
  unfold ap
  rw [this]
/-- words of one length, of whole letters -/
def Ok (n : Nat) (out : List (List Int)) : Prop := ∀ x ∈ out, x.length = n ∧ ∀ y ∈ x, (Lit.int .u16 y).wf = true
theorem Ok_snoc {n : Nat} {out : List (List Int)} (h : Ok n out) (b : Int) (p : Nat) : Ok n (out ++ [wordAt b n p]) := by
  intro x hx
  rcases List.mem_append.1 hx with h1 | h1
  · exact h x h1
  · rw [List.mem_singleton.1 h1]; exact ⟨wordAt_length b n p, wordAt_wf b n p⟩
theorem getD_Ok {n : Nat} {out : List (List Int)} (h : Ok n out) {i : Nat} (hi : i < out.length) : (out.getD i []).length = n ∧ ∀ y ∈ out.getD i [], (Lit.int .u16 y).wf = true := by
  have e : out.getD i [] = out[i] := by simp [List.getD, hi]
  rw [e]; exact h _ (List.getElem_mem hi)
theorem any_take_succ {f : List Int → Bool} {l : List (List Int)} {i : Nat} (hi : i < l.length) : (l.take (i + 1)).any f = ((l.take i).any f || f (l.getD i [])) := by
  rw [List.take_add_one, List.any_append, List.getElem?_eq_getElem hi]
  simp [List.getD, hi]
theorem any_of_take {f : List Int → Bool} {l : List (List Int)} {i : Nat} (h : (l.take i).any f = true) : l.any f = true := by
  obtain ⟨x, hx, hf⟩ := List.any_eq_true.1 h
  exact List.any_eq_true.2 ⟨x, List.mem_of_mem_take hx, hf⟩
theorem rdL1' (xs : List (List Int)) (i : Nat) : rd_L1 xs (i : Int) = xs.getD i [] := by simp [rd_L1]
theorem sgr_in (b a : Int) (n N p : Nat) (hn : n ≤ 7) (out : List (List Int)) (ho : Ok n out) (hl : out.length ≤ 5000) (X : List (List Int) × Int)
    (hX : Ev (fun k => spec_GreedyCode.j3 k b (n : Int) a (N : Int) out (p : Int) (wordAt b n p) (!out.any (near a (wordAt b n p)))) X) :
    ∀ d i, i + d = out.length → Ev (fun k => spec_GreedyCode.l1 k b (n : Int) a (N : Int) out (p : Int) (wordAt b n p) (!(out.take i).any (near a (wordAt b n p))) (i : Int)) X := by
  intro d
  induction d with
  | zero =>
    intro i hi
    rw [List.take_of_length_le (by omega)]
    exact Ev.step (f := fun k => spec_GreedyCode.j3 k b (n : Int) a (N : Int) out (p : Int) (wordAt b n p) (!out.any (near a (wordAt b n p)))) (fun k => by simp only [spec_GreedyCode.l1]; rw [if_neg (by omega)]) hX
  | succ d ih =>
    intro i hi
    cases hv : (out.take i).any (near a (wordAt b n p)) with
    | true =>
      have ha := any_of_take hv
      rw [ha] at hX
      exact Ev.step (f := fun k => spec_GreedyCode.j3 k b (n : Int) a (N : Int) out (p : Int) (wordAt b n p) (!true)) (fun k => by simp only [spec_GreedyCode.l1]; rw [if_pos (by omega), if_neg (by simp)]) hX
    | false =>
      have hg := getD_Ok ho (show i < out.length by omega)
      have e := ih (i + 1) (by omega)
      rw [any_take_succ (by omega), hv, Bool.false_or] at e
      have hc : near a (wordAt b n p) (out.getD i []) = decide (ap (out.getD i []) (wordAt b n p) < a) := by
        unfold near
        rw [ap_comm (wordAt_wf b n p) hg.2 (by rw [wordAt_length, hg.1])]
      rw [hc] at e
      have hs := sap (out.getD i []) (wordAt b n p) hg.2 (wordAt_wf b n p) (by rw [wordAt_length, hg.1]) (by omega)
      refine Ev.step (f := fun k => (spec_l06Apart.f k (out.getD i []) (wordAt b n p)).bind fun t => spec_GreedyCode.l1 k b (n : Int) a (N : Int) out (p : Int) (wordAt b n p) (decide (t ≥ a)) ((i + 1 : Nat) : Int)) (fun k => ?_) (Ev.bind hs ?_)
      · simp only [spec_GreedyCode.l1]
        rw [if_pos (by omega), if_pos (by simp), if_pos (by omega), rdL1', w64s (by omega)]
      · rw [show (!decide (ap (out.getD i []) (wordAt b n p) < a)) = decide (ap (out.getD i []) (wordAt b n p) ≥ a) by rw [← decide_not]; exact decide_eq_decide.2 (by omega)] at e
        exact e
theorem sgr (b a : Int) (hb : b ≠ 0) (n N : Nat) (hn : n ≤ 7) (hN : N ≤ 5000) : ∀ d p (out : List (List Int)), p + d = N → Ok n out → out.length ≤ p → Ev (fun k => spec_GreedyCode.l0 k b (n : Int) a (N : Int) out (p : Int)) (grd b a n d p out) := by
  intro d
  induction d with
  | zero =>
    intro p out hp _ _
    exact Ev.step (f := fun _ => some (out, 0)) (fun k => by simp only [spec_GreedyCode.l0]; rw [if_neg (by omega)]) (Ev.now _)
  | succ d ih =>
    intro p out hp ho hl
    refine Ev.step (f := fun k => (spec_l06At.f k b (n : Int) (p : Int)).bind fun t => spec_GreedyCode.l1 k b (n : Int) a (N : Int) out (p : Int) t true 0) (fun k => by simp only [spec_GreedyCode.l0]; rw [if_pos (by omega)]) (Ev.bind (sat_ev b (p : Int) n hb (by omega)) ?_)
    refine sgr_in b a n N p hn out ho (by omega) _ ?_ out.length 0 (by omega)
    have hg : grd b a n (d + 1) p out = if out.any (near a (wordAt b n p)) then grd b a n d (p + 1) out else if out.length = 300 then ([], 7) else grd b a n d (p + 1) (out ++ [wordAt b n p]) := rfl
    rw [hg]
    cases hv : out.any (near a (wordAt b n p)) with
    | true =>
      rw [if_pos rfl]
      exact Ev.step (f := fun k => spec_GreedyCode.l0 k b (n : Int) a (N : Int) out ((p + 1 : Nat) : Int)) (fun k => by simp only [spec_GreedyCode.j3]; rw [if_neg (by simp), w64s (by omega)]) (ih (p + 1) out (by omega) ho (by omega))
    | false =>
      rw [if_neg (by simp)]
      by_cases h3 : out.length = 300
      · rw [if_pos h3]
        exact Ev.step (f := fun _ => some ([], 7)) (fun k => by simp only [spec_GreedyCode.j3]; rw [if_pos (by simp), if_pos (by omega)]) (Ev.now _)
      · rw [if_neg h3]
        exact Ev.step (f := fun k => spec_GreedyCode.l0 k b (n : Int) a (N : Int) (out ++ [wordAt b n p]) ((p + 1 : Nat) : Int)) (fun k => by simp only [spec_GreedyCode.j3]; rw [if_pos (by simp), if_neg (by omega), if_pos (by omega), w64s (by omega)]) (ih (p + 1) _ (by omega) (Ok_snoc ho b p) (by simp; omega))
theorem mulN_pos {b : Int} (h : isB b = true) (n : Nat) (hn : 1 ≤ n) (h7 : n ≤ 7) : 0 ≤ mulN b n 1 := by
  have h1 : n = 1 ∨ n = 2 ∨ n = 3 ∨ n = 4 ∨ n = 5 ∨ n = 6 ∨ n = 7 := by omega
  rcases isB_cases h with rfl | rfl | rfl | rfl <;> rcases h1 with rfl | rfl | rfl | rfl | rfl | rfl | rfl <;> decide +kernel
theorem sgreedy (b len a : Int) : Ev (fun k => spec_GreedyCode.f k b len a) (greedy b len a) := by
  have hf : ∀ k, spec_GreedyCode.f k b len a = spec_GreedyCode.j0 k b len a (!(isB b && (decide (1 ≤ len ∧ len ≤ 7) && decide (1 ≤ a ∧ a ≤ len)))) := by
    intro k
    unfold spec_GreedyCode.f
    rw [sbase, sin, sin]
    simp only [Option.bind_some]
    cases isB b <;> cases decide (1 ≤ len ∧ len ≤ 7) <;> simp
  refine Ev.congr hf ?_
  unfold greedy
  by_cases h : isB b = true ∧ (1 ≤ len ∧ len ≤ 7) ∧ (1 ≤ a ∧ a ≤ len)
  · rw [if_pos h, h.1, decide_eq_true h.2.1, decide_eq_true h.2.2]
    obtain ⟨hB, hl, ha⟩ := h
    obtain ⟨n, rfl⟩ := Int.eq_ofNat_of_zero_le (show 0 ≤ len by omega)
    rw [Int.toNat_natCast]
    have h1 : Ev (fun k => spec_l06All.f k b (n : Int)) (mulN b n 1) := sall b n 1 (by omega)
    obtain ⟨N, hN⟩ := Int.eq_ofNat_of_zero_le (mulN_pos hB n (by omega) (by omega))
    rw [hN] at h1 ⊢
    refine Ev.step (f := fun k => (spec_l06All.f k b (n : Int)).bind fun t => if t > 5000 then some ([], 3) else spec_GreedyCode.l0 k b (n : Int) a t [] 0) (fun k => by simp only [spec_GreedyCode.j0]; rw [if_neg (by simp)]) (Ev.bind h1 ?_)
    by_cases h5 : (N : Int) > 5000
    · rw [if_pos h5]
      exact Ev.congr (fun k => by rw [if_pos h5]) (Ev.now _)
    · rw [if_neg h5, Int.toNat_natCast]
      refine Ev.congr (fun k => by rw [if_neg h5]; rfl) (sgr b a (by have := isB_cases hB; omega) n N (by omega) (by omega) N 0 [] (by omega) (by intro x hx; cases hx) (by simp))
  · rw [if_neg h]
    have e : (!(isB b && (decide (1 ≤ len ∧ len ≤ 7) && decide (1 ≤ a ∧ a ≤ len)))) = true := by
      rw [Bool.not_eq_true', ← Bool.not_eq_true, Bool.and_eq_true, Bool.and_eq_true, decide_eq_true_eq, decide_eq_true_eq]
      exact h
    rw [e]
    exact Ev.step (f := fun _ => some ([], 2)) (fun k => by simp only [spec_GreedyCode.j0, if_true]) (Ev.now _)

end Go.Proofs.Ytabdpdnofljkcaa.Given
