/- Numbers and lists read off texts, in plain words. -/
import Derived.Test.YtcghgceihnfnhaaDoorProg
import Derived.Below
import Derived.Deep.Draws
import Derived.Deep.AppendLies
import Derived.Maps.AppendAt
import Derived.OwnWalk
import Derived.Laws.BytesArg
import Derived.Laws.MakeOwn
import Derived.Laws.OwnMore
import Derived.Deep.OwnRows
import Derived.Tactics
import Derived.Lib.ConvBytes
import Derived.Laws.Slices
import Derived.WalkKit
import Derived.KernelRfl
import Derived.RowKit3
import Derived.Deep.LoopGhost
import Derived.Deep.QuietTactic
import Derived.BigQuiet
import Derived.WideLaws
import Derived.Deep.DeepCutAuto
import Derived.Deep.CutBlock
import Derived.Deep.RegionHeld3
import Derived.Laws.Rows
import Derived.Lib.AppendStr
import Derived.ArgAppend
import Derived.Laws.IdiomCopy
import Derived.OrdersHeld
import Derived.Laws.BitsLemmas
import Derived.RowKit
import Derived.Lib.Hide
import Derived.WalkSpells
import Derived.Test.YtcghgceihnfnhaaDoorWWords
import Derived.Test.YtcghgceihnfnhaaDoorWLast
import Derived.Test.YtcghgceihnfnhaaDoorWTab
import Derived.Test.YtcghgceihnfnhaaDoorWFour
import Derived.Test.YtcghgceihnfnhaaDoorWQPut
import Derived.Test.YtcghgceihnfnhaaDoorWApart
import Derived.Test.YtcghgceihnfnhaaDoorWArr
import Derived.Test.YtcghgceihnfnhaaDoorWZeros
import Derived.Test.YtcghgceihnfnhaaDoorWFoot
import Derived.Test.YtcghgceihnfnhaaDoorWKept
import Derived.Test.YtcghgceihnfnhaaDoorWShare
import Derived.Test.YtcghgceihnfnhaaDoorWN
import Derived.Test.YtcghgceihnfnhaaDoorWFootNe
import Derived.Test.YtcghgceihnfnhaaDoorWAt
import Derived.Test.YtcghgceihnfnhaaDoorWEqStruct
import Derived.Test.YtcghgceihnfnhaaDoorWRepsOne
import Derived.Test.YtcghgceihnfnhaaDoorWInv
import Derived.Test.YtcghgceihnfnhaaDoorWInvWords
import Derived.Test.YtcghgceihnfnhaaDoorWGuard
import Derived.Test.YtcghgceihnfnhaaDoorWNEv
import Derived.Test.YtcghgceihnfnhaaDoorWMore
import Derived.Test.YtcghgceihnfnhaaDoorN1
import Derived.Test.YtcghgceihnfnhaaDoorGT
import Derived.Test.YtcghgceihnfnhaaDoorShelfR
import Derived.Lib.ParseIntB
import Derived.Lib.SplitLaws
import Derived.Lib.Replace
import Derived.Lib.CutLaws
namespace Go.Proofs.YtcghgceihnfnhaaDoor.Given
open Go.RowKit Go.Proofs.YtcghgceihnfnhaaDoorW.PrintWords Go.Proofs.YtcghgceihnfnhaaDoorW.PrintLast Go.Proofs.YtcghgceihnfnhaaDoorW.PrintMore Go.Proofs.YtcghgceihnfnhaaDoor.NimF Go.Proofs.YtcghgceihnfnhaaDoor.NimGo
set_option linter.unusedVariables false
set_option linter.unusedSimpArgs false
def isDg (c : UInt8) : Bool := decide (48 ≤ c.toNat ∧ c.toNat ≤ 57)
def valA (a : Nat) (l : List UInt8) : Nat := l.foldl (fun a c => 10 * a + (c.toNat - 48)) a
def valL (l : List UInt8) : Nat := valA 0 l
def isNum (l : List UInt8) : Bool := decide (l ≠ [] ∧ l.length ≤ 10 ∧ (l.headD 0 = 48 → l.length ≤ 1)) && l.all isDg
def numL (l : List UInt8) : Option Nat := if isNum l = true ∧ valL l ≤ 65535 then some (valL l) else none
theorem valA_append (a : Nat) (l r : List UInt8) : valA a (l ++ r) = valA (valA a l) r := by simp [valA]
theorem valA_one (a : Nat) (c : UInt8) : valA a [c] = 10 * a + (c.toNat - 48) := rfl
theorem valA_ge : ∀ (l : List UInt8) (a : Nat), a ≤ valA a l
  | [], a => Nat.le_refl _
  | c :: l, a => by
    have := valA_ge l (10 * a + (c.toNat - 48))
    show a ≤ valA (10 * a + (c.toNat - 48)) l
    omega
theorem digit_back {c : UInt8} (h : isDg c = true) : UInt8.ofNat (48 + (c.toNat - 48)) = c := by
  unfold isDg at h
  have := of_decide_eq_true h
  have e : 48 + (c.toNat - 48) = c.toNat := by omega
  rw [e]
  exact UInt8.ofNat_toNat
theorem digit_to {d : Nat} (h : d < 10) : (UInt8.ofNat (48 + d)).toNat = 48 + d := by
  rw [UInt8.toNat_ofNat']; omega
theorem decDigits_head : ∀ (m : Nat), 1 ≤ m → Lib.decDigits m ≠ [] ∧ (Lib.decDigits m).headD 0 ≠ 48 := by
  intro m
  induction m using Nat.strongRecOn with
  | _ m ih =>
    intro h1
    by_cases h : m < 10
    · rw [Lib.decDigits_one h]
      refine ⟨by simp, ?_⟩
      intro e
      have := congrArg UInt8.toNat e
      rw [List.headD_cons, digit_to h] at this
      simp at this; omega
    · obtain ⟨h2, h3⟩ := ih (m / 10) (by omega) (by omega)
      rw [Lib.decDigits, dif_neg h]
      refine ⟨by simp, ?_⟩
      obtain ⟨x, r, hx⟩ : ∃ x r, Lib.decDigits (m / 10) = x :: r := by
        cases hq : Lib.decDigits (m / 10) with
        | nil => exact absurd hq h2
        | cons x r => exact ⟨x, r, rfl⟩
      rw [hx] at h3 ⊢
      exact h3
theorem isNum_dec : ∀ (l r : List UInt8), l = r.reverse → l ≠ [] → l.all isDg = true → (l.headD 0 = 48 → l.length ≤ 1) → l = Lib.decDigits (valL l) := by
  intro l r
  induction r generalizing l with
  | nil => intro h h0; exact absurd h (by simpa using h0)
  | cons c r ih =>
    intro h h0 hd hz
    rw [List.reverse_cons] at h
    subst h
    rw [List.all_append] at hd
    have hd1 := (Bool.and_eq_true_iff.1 hd).1
    have hc : isDg c = true := by have := (Bool.and_eq_true_iff.1 hd).2; simpa using this
    have hc2 := of_decide_eq_true hc
    have hv : valL (r.reverse ++ [c]) = 10 * valL r.reverse + (c.toNat - 48) := by unfold valL; rw [valA_append, valA_one]
    by_cases he : r.reverse = []
    · rw [he] at hv ⊢
      rw [hv]
      have e : valL [] = 0 := rfl
      rw [e, Lib.decDigits_one (by omega), Nat.mul_zero, Nat.zero_add, digit_back hc]
      rfl
    · have hh : (r.reverse ++ [c]).headD 0 = r.reverse.headD 0 := by
        cases hq : r.reverse with
        | nil => exact absurd hq he
        | cons x t => rfl
      have hlen : 1 ≤ r.reverse.length := List.length_pos_iff.2 he
      rw [hh] at hz
      have hne : r.reverse.headD 0 ≠ 48 := fun e => by
        have := hz e
        rw [List.length_append, List.length_singleton] at this
        omega
      have ih' := ih r.reverse rfl he hd1 (fun e => absurd e hne)
      have hp : 1 ≤ valL r.reverse := by
        rcases Nat.eq_zero_or_pos (valL r.reverse) with h0 | h0
        · rw [h0, Lib.decDigits_one (by omega)] at ih'
          rw [ih'] at hne
          exact absurd rfl hne
        · exact h0
      rw [hv, Lib.decDigits, dif_neg (by omega), show (10 * valL r.reverse + (c.toNat - 48)) / 10 = valL r.reverse by omega, show (10 * valL r.reverse + (c.toNat - 48)) % 10 = c.toNat - 48 by omega, ← ih', digit_back hc]
theorem decDigits_digits : ∀ (m : Nat), (Lib.decDigits m).all isDg = true ∧ valL (Lib.decDigits m) = m := by
  intro m
  induction m using Nat.strongRecOn with
  | _ m ih =>
    by_cases h : m < 10
    · rw [Lib.decDigits_one h]
      refine ⟨?_, ?_⟩
      · simp only [List.all_cons, List.all_nil, Bool.and_true]
        unfold isDg
        exact decide_eq_true (by rw [digit_to h]; omega)
      · show 10 * 0 + ((UInt8.ofNat (48 + m)).toNat - 48) = m
        rw [digit_to h]; omega
    · obtain ⟨h1, h2⟩ := ih (m / 10) (by omega)
      rw [Lib.decDigits, dif_neg h]
      refine ⟨?_, ?_⟩
      · rw [List.all_append, h1]
        simp only [List.all_cons, List.all_nil, Bool.and_true, Bool.true_and]
        unfold isDg
        exact decide_eq_true (by rw [digit_to (by omega)]; omega)
      · unfold valL at h2 ⊢
        rw [valA_append, valA_one, h2, digit_to (by omega)]; omega
theorem nDigits_five : ∀ (k u : Nat), u < 10 ^ (k + 1) → Lib.nDigits u ≤ k + 1
  | 0, u, h => by rw [Lib.nDigits_small (by simpa using h)]; omega
  | k + 1, u, h => by
    by_cases hu : u < 10
    · rw [Lib.nDigits_small hu]; omega
    · rw [Lib.nDigits_big hu]
      have := nDigits_five k (u / 10) (by rw [Nat.pow_succ] at h; omega)
      omega
theorem isNum_decDigits (m : Nat) (h : m ≤ 65535) : isNum (Lib.decDigits m) = true := by
  unfold isNum
  rw [(decDigits_digits m).1, Bool.and_true]
  apply decide_eq_true
  have hl : (Lib.decDigits m).length ≤ 5 := by rw [Lib.decDigits_length]; exact nDigits_five 4 m (by omega)
  rcases Nat.eq_zero_or_pos m with rfl | h1
  · rw [Lib.decDigits_one (by omega)] at hl ⊢
    exact ⟨by simp, by simp, fun _ => by simp⟩
  · obtain ⟨h2, h3⟩ := decDigits_head m h1
    exact ⟨h2, by omega, fun e => absurd e h3⟩
theorem numL_some {l : List UInt8} {n : Nat} : numL l = some n ↔ n ≤ 65535 ∧ l = Lib.decDigits n := by
  unfold numL
  constructor
  · intro h
    split at h
    · rename_i hc
      obtain rfl := Option.some.inj h
      unfold isNum at hc
      obtain ⟨h1, h2⟩ := hc
      rw [Bool.and_eq_true] at h1
      obtain ⟨h3, h4, h5⟩ := of_decide_eq_true h1.1
      exact ⟨h2, isNum_dec l l.reverse (by simp) h3 h1.2 h5⟩
    · cases h
  · rintro ⟨h, rfl⟩
    rw [if_pos ⟨isNum_decDigits n h, by rw [(decDigits_digits n).2]; exact h⟩, (decDigits_digits n).2]
theorem parseUintM_digits (M : Nat) (hM : 65535 ≤ M) : ∀ (l : List UInt8) (a : Nat), l.all isDg = true → valA a l ≤ 65535 → Lib.parseUintM M a l = .ok (valA a l)
  | [], a, _, _ => rfl
  | c :: l, a, hd, h => by
    rw [List.all_cons, Bool.and_eq_true] at hd
    have hc := of_decide_eq_true hd.1
    have h2 : valA (10 * a + (c.toNat - 48)) l ≤ 65535 := h
    have hge := valA_ge l (10 * a + (c.toNat - 48))
    rw [Lib.parseUintM, if_pos hc, if_neg (by omega), if_neg (by omega), show a * 10 + (c.toNat - 48) = 10 * a + (c.toNat - 48) by omega]
    exact parseUintM_digits M hM l _ hd.2 h2
theorem parse_dec (n : Nat) (h : n ≤ 65535) : Lib.parseIntB 64 (Lib.decDigits n) = .ok (n : Int) := by
  obtain ⟨h1, h2⟩ := decDigits_digits n
  have hu : Lib.parseUintM (2 ^ 64 - 1) 0 (Lib.decDigits n) = .ok n := by
    rw [parseUintM_digits (2 ^ 64 - 1) (by decide) _ 0 h1 (by unfold valL at h2; rw [h2]; exact h)]
    unfold valL at h2; rw [h2]
  cases hl : Lib.decDigits n with
  | nil =>
    exfalso
    have := Lib.decDigits_length n
    rw [hl] at this
    have := Lib.nDigits_pos n
    simp at *; omega
  | cons c r =>
    have hc : isDg c = true := by rw [hl, List.all_cons, Bool.and_eq_true] at h1; exact h1.1
    have hc2 := of_decide_eq_true hc
    have e1 : ¬ (c.toNat = 43 ∨ c.toNat = 45) := by omega
    have e2 : ¬ (c.toNat = 45) := by omega
    have e3 : Lib.parseUintB 64 (c :: r) = .ok n := by unfold Lib.parseUintB; rw [if_neg (by simp), ← hl]; exact hu
    simp only [Lib.parseIntB]
    rw [if_neg e1, e3]
    simp only []
    have hb : ¬ (2 ^ (64 - 1) ≤ n) := by have : (65535 : Nat) < 2 ^ (64 - 1) := by decide
                                         omega
    rw [if_neg (fun h => hb h.2), if_neg (fun h => e2 h.1), if_neg e2]
/-- what the program's number reads: the number, or -1 -/
def numI (l : List UInt8) : Int := match numL l with | some n => (n : Int) | none => -1
theorem numI_ok {l : List UInt8} {v : Int} (h0 : 0 ≤ v) (h1 : v ≤ 65535) (hs : Lib.itoa v = l) : numI l = v := by
  obtain ⟨n, rfl⟩ := Int.eq_ofNat_of_zero_le h0
  rw [Lib.itoa_nonneg] at hs
  unfold numI
  rw [numL_some.2 ⟨by omega, hs.symm⟩]
theorem numI_no {l : List UInt8} (h : ∀ n : Nat, n ≤ 65535 → Lib.parseIntB 64 l = .ok (n : Int) → Lib.itoa (n : Int) ≠ l) : numI l = -1 := by
  unfold numI
  cases hn : numL l with
  | none => rfl
  | some n =>
    obtain ⟨h1, h2⟩ := numL_some.1 hn
    exact absurd (by rw [Lib.itoa_nonneg]; exact h2.symm) (h n h1 (by rw [h2]; exact parse_dec n h1))
theorem numI_range (l : List UInt8) : -1 ≤ numI l ∧ numI l ≤ 65535 := by
  unfold numI
  cases hn : numL l with
  | none => exact ⟨by simp, by simp⟩
  | some n => have := (numL_some.1 hn).1; exact ⟨by show (-1 : Int) ≤ (n : Int); omega, by show (n : Int) ≤ 65535; omega⟩
/-- the nimber with a text -/
def readN (t : List UInt8) : Option Nat := if t.headD 0 = 42 then numL t.tail else none
def readAcc (acc : List Int) : List (List UInt8) → Option (List Int)
  | [] => some acc
  | x :: r => match readN x with | some n => readAcc (acc ++ [(n : Int)]) r | none => none
/-- a text cut at each such byte -/
def splitC (c : UInt8) : List UInt8 → List (List UInt8)
  | [] => [[]]
  | b :: l => if b = c then [] :: splitC c l else match splitC c l with | x :: r => (b :: x) :: r | [] => [[b]]
/-- the list with a text -/
def readL (t : List UInt8) : Option (List Int) := if t = [] then some [] else readAcc [] (splitC 32 t)
theorem splitC_ne (c : UInt8) (l : List UInt8) : splitC c l ≠ [] := by
  cases l with
  | nil => simp [splitC]
  | cons b l =>
    unfold splitC
    split
    · simp
    · split <;> simp
theorem index_cons_ne (b c : UInt8) (l : List UInt8) (h : b ≠ c) : Lib.index (b :: l) [c] = if Lib.index l [c] == -1 then -1 else Lib.index l [c] + 1 := by
  have hp : ([c] : List UInt8).isPrefixOf (b :: l) = false := by simp [List.isPrefixOf, Ne.symm h]
  rw [Lib.index, hp]; simp
theorem index_cons_eq (c : UInt8) (l : List UInt8) : Lib.index (c :: l) [c] = 0 := by
  rw [Lib.index]; simp [List.isPrefixOf]
theorem split_eq (c : UInt8) : ∀ (l : List UInt8), Lib.splitK [c] 0 (l.count c) l = splitC c l
  | [] => rfl
  | b :: l => by
    have ih := split_eq c l
    by_cases h : b = c
    · subst h
      rw [List.count_cons_self, Lib.splitK, index_cons_eq]
      simp only [splitC, if_pos rfl]
      rw [← ih]
      rfl
    · rw [List.count_cons_of_ne (by simpa using h)]
      simp only [splitC, if_neg h]
      rw [← ih]
      cases hk : l.count c with
      | zero => rfl
      | succ k =>
        have hpos : 0 < Lib.count l [c] := by rw [Lib.count_one, hk]; omega
        obtain ⟨i, hi⟩ := Lib.index_of_count hpos
        have e1 : Lib.index (b :: l) [c] = ((i + 1 : Nat) : Int) := by
          rw [index_cons_ne b c l h, hi, if_neg (fun e => by have := beq_iff_eq.1 e; omega)]; omega
        simp only [Lib.splitK, e1, hi]
        have n1 : ¬ ((((i + 1 : Nat) : Int) == -1) = true) := fun e => by have := beq_iff_eq.1 e; omega
        have n2 : ¬ (((i : Int) == -1) = true) := fun e => by have := beq_iff_eq.1 e; omega
        rw [if_neg n1, if_neg n2]
        simp only [Int.toNat_natCast, Nat.add_zero, List.length_singleton]
        simp only [List.take_succ_cons, List.drop_succ_cons]

theorem splitC_len (c : UInt8) : ∀ (l x : List UInt8), x ∈ splitC c l → x.length ≤ l.length
  | [], x, h => by simp [splitC] at h; subst h; simp
  | b :: l, x, h => by
    have ih := splitC_len c l
    unfold splitC at h
    split at h
    · rcases List.mem_cons.1 h with rfl | h
      · simp
      · have := ih x h; rw [List.length_cons]; omega
    · split at h
      · rename_i y r hq
        rcases List.mem_cons.1 h with rfl | h
        · have := ih y (by rw [hq]; exact List.mem_cons_self); rw [List.length_cons, List.length_cons]; omega
        · have := ih x (by rw [hq]; exact List.mem_cons_of_mem _ h); rw [List.length_cons]; omega
      · rename_i hq
        exact absurd hq (splitC_ne c l)
theorem readAcc_bound : ∀ (ws : List (List UInt8)) (acc r : List Int), readAcc acc ws = some r → r.length = acc.length + ws.length
  | [], acc, r, h => by simp [readAcc] at h; subst h; simp
  | x :: ws, acc, r, h => by
    unfold readAcc at h
    split at h
    · have := readAcc_bound ws _ r h
      rw [this, List.length_append, List.length_singleton, List.length_cons]; omega
    · cases h
theorem splitC_count (c : UInt8) : ∀ (l : List UInt8), (splitC c l).length ≤ l.length + 1
  | [] => by simp [splitC]
  | b :: l => by
    have ih := splitC_count c l
    unfold splitC
    split
    · rw [List.length_cons, List.length_cons]; omega
    · split
      · rename_i y r hq
        rw [hq] at ih
        rw [List.length_cons] at ih ⊢
        rw [List.length_cons]; omega
      · simp

end Go.Proofs.YtcghgceihnfnhaaDoor.Given
