/- Bits of Go numbers as bits of natural numbers; lists. -/
import Derived.Test.YtkgnjfoclhkgkaaDoorWMore
import Derived.Laws.BitsLemmas
import Derived.Test.YtkgnjfoclhkgkaaDoorWSized
namespace Go.Proofs.YtkgnjfoclhkgkaaDoor.PrintWords
open Go.ChangeShapes Go.WideShapes
theorem sized_ints {H : Type} {enc : TypeId × Value → H} {P : Program} {W : World} {base : Nat} {spare : Nat → Bool} {held : Bool} {t e : TypeId} {k : IntKind} {a : Option Addr} {len cap : Nat} {d : DataW H} {ps : List MemPlace} {ts : List TypeId} {ds : List (DataW H)} {j : Nat}
    (hsz : (DataW.weightsEach P ts ds).all (· ≤ reachBytes) = true) (ht : ts[j]? = some t) (hd : ds[j]? = some d) (hu : P.underlying t = some (.slice e)) (he : P.underlying e = some (.int k)) (hc : P.cellsOf e = 1) {B : Nat} (hB : P.bytesOf e = B)
    (h : DataW.Trod enc P W base spare held t (.slice a len cap) d ps) : len * B ≤ 140737488351232 :=
  Go.Proofs.YtkgnjfoclhkgkaaDoorW.PrintWords.sized_ints hsz ht hd hu he hc hB h
end Go.Proofs.YtkgnjfoclhkgkaaDoor.PrintWords
namespace Go.Proofs.YtkgnjfoclhkgkaaDoor.NimF
end Go.Proofs.YtkgnjfoclhkgkaaDoor.NimF
namespace Go.Proofs.YtkgnjfoclhkgkaaDoor.NimGo
open Go.RowKit Go.Proofs.YtkgnjfoclhkgkaaDoorW.PrintWords Go.Proofs.YtkgnjfoclhkgkaaDoorW.PrintMore Go.Proofs.YtkgnjfoclhkgkaaDoor.NimF
theorem bits_xor_nat (k : IntKind) (j : Nat) (hj : j ≤ k.bits) (hk : ∀ n : Int, 0 ≤ n → n < 2 ^ j → k.wrap n = n) (a b : Nat) (ha : a < 2 ^ j) (hb : b < 2 ^ j) :
    Go.bits .xor k a b = ((a ^^^ b : Nat) : Int) := by
  have hp : 2 ^ j ≤ 2 ^ k.bits := Nat.pow_le_pow_right (by decide) hj
  have ha' : a % 2 ^ k.bits = a := Nat.mod_eq_of_lt (Nat.lt_of_lt_of_le ha hp)
  have hb' : b % 2 ^ k.bits = b := Nat.mod_eq_of_lt (Nat.lt_of_lt_of_le hb hp)
  have cast : ∀ n : Nat, n < 2 ^ j → ((n : Nat) : Int) < 2 ^ j := fun n h => by exact_mod_cast h
  simp only [Go.bits, BitVec.ofInt_natCast, BitVec.toNat_xor, BitVec.toNat_ofNat, ha', hb']
  exact hk _ (Int.natCast_nonneg _) (cast _ (Nat.xor_lt_two_pow ha hb))
theorem wraps_u16 (n : Int) (h₀ : 0 ≤ n) (h₁ : n < 2 ^ 16) : IntKind.u16.wrap n = n := by
  simp [IntKind.wrap, IntKind.bits, IntKind.signed]; omega
theorem wraps_u32 (n : Int) (h₀ : 0 ≤ n) (h₁ : n < 2 ^ 32) : IntKind.u32.wrap n = n := by
  simp [IntKind.wrap, IntKind.bits, IntKind.signed]; omega
theorem xor16 {a b : Nat} (ha : a < 65536) (hb : b < 65536) : Go.bits .xor .u16 (a : Int) b = ((a ^^^ b : Nat) : Int) :=
  bits_xor_nat .u16 16 (by decide) wraps_u16 a b ha hb
theorem shr_nat (k : IntKind) (a s : Nat) (hs : s ≤ k.bits) : shr k (a : Int) (s : Int) = ((a >>> s : Nat) : Int) := by
  unfold shr
  rw [Int.toNat_natCast, Nat.min_eq_left hs, Nat.shiftRight_eq_div_pow]
  simp
theorem wraps16n {n : Nat} (h : n < 65536) : IntKind.u16.wrap (n : Int) = n := wraps_u16 _ (Int.natCast_nonneg _) (by omega)
theorem w64s {i : Nat} (h : i < 4611686018427387904) : wrap64 ((i : Int) + 1) = ((i + 1 : Nat) : Int) := by
  unfold wrap64; omega
theorem w64i {x : Int} (h0 : -4611686018427387904 ≤ x) (h : x < 4611686018427387904) : wrap64 x = x := by
  unfold wrap64; omega
theorem rd_nat (xs : List Int) (i : Nat) : rd xs (i : Int) = xs.getD i 0 := by simp [rd]
theorem take_set_succ {x a : List Int} {i : Nat} {v : Int} (hi : i < x.length) (ht : x.take i = a.take i) (hv : a[i]? = some v) : (x.set i v).take (i + 1) = a.take (i + 1) := by
  apply List.ext_getElem?
  intro j
  have hj := congrArg (fun l => l[j]?) ht
  simp only [List.getElem?_take] at hj
  simp only [List.getElem?_take, List.getElem?_set]
  by_cases h1 : j < i
  · have h2 : j < i + 1 := by omega
    have h3 : ¬ i = j := by omega
    simp only [h1, if_true] at hj
    simp only [h2, h3, if_true, if_false]; exact hj
  · by_cases h2 : j = i
    · subst h2
      simp [hi, hv]
    · have h3 : ¬ j < i + 1 := by omega
      simp [h3]
theorem getD_some {a : List Int} {i : Nat} (h : i < a.length) : a[i]? = some (a.getD i 0) := by
  simp [List.getD, h]
theorem drop_eq_iff {a b : List Int} {i : Nat} (ha : i < a.length) (hb : i < b.length) : (a.drop i = b.drop i) ↔ (a.getD i 0 = b.getD i 0 ∧ a.drop (i + 1) = b.drop (i + 1)) := by
  have e1 : a.getD i 0 = a[i] := by simp [List.getD, ha]
  have e2 : b.getD i 0 = b[i] := by simp [List.getD, hb]
  rw [List.drop_eq_getElem_cons ha, List.drop_eq_getElem_cons hb, e1, e2, List.cons.injEq]
theorem eq_loop {g : Nat → List Int → List Int → Int → Option Bool}
    (hg : ∀ k x0 x1 x5, g (k + 1) x0 x1 x5 = if x5 < (x0.length : Int) then (if 0 ≤ x5 then (if x5 < (x1.length : Int) then (if (rd x0 x5) = (rd x1 x5) then (g k x0 x1 (wrap64 (x5 + 1))) else (some false)) else (none)) else (none)) else (some true))
    (a b : List Int) (hl : a.length = b.length) (h : a.length ≤ 140737488355328) : ∀ d i, i + d = a.length → Ev (fun k => g k a b (i : Int)) (decide (a.drop i = b.drop i)) := by
  intro d
  induction d with
  | zero =>
    intro i hi
    have : a.drop i = b.drop i := by rw [List.drop_eq_nil_of_le (by omega), List.drop_eq_nil_of_le (by omega)]
    rw [decide_eq_true this]
    exact Ev.step (f := fun _ => some true) (fun k => by rw [hg, if_neg (by omega)]) (Ev.now _)
  | succ d ih =>
    intro i hi
    have hd := drop_eq_iff (a := a) (b := b) (i := i) (by omega) (by omega)
    by_cases hv : a.getD i 0 = b.getD i 0
    · have e : decide (a.drop i = b.drop i) = decide (a.drop (i + 1) = b.drop (i + 1)) := by
        rw [Bool.eq_iff_iff]; simp only [decide_eq_true_eq]; rw [hd]; simp only [hv, true_and]
      rw [e]
      refine Ev.step (f := fun k => g k a b ((i + 1 : Nat) : Int)) (fun k => ?_) (ih (i + 1) (by omega))
      rw [hg, if_pos (by omega), if_pos (by omega), if_pos (by omega), rd_nat, rd_nat, if_pos hv, w64s (by omega)]
    · have e : decide (a.drop i = b.drop i) = false := decide_eq_false (fun x => hv (hd.1 x).1)
      rw [e]
      refine Ev.step (f := fun _ => some false) (fun k => ?_) (Ev.now _)
      rw [hg, if_pos (by omega), if_pos (by omega), if_pos (by omega), rd_nat, rd_nat, if_neg hv]
theorem eq_ev {f : Nat → List Int → List Int → Option Bool} {g : Nat → List Int → List Int → Int → Option Bool}
    (hf : ∀ k l0 l1, f k l0 l1 = if (l0.length : Int) = (l1.length : Int) then (g k l0 l1 0) else (some false))
    (hg : ∀ k x0 x1 x5, g (k + 1) x0 x1 x5 = if x5 < (x0.length : Int) then (if 0 ≤ x5 then (if x5 < (x1.length : Int) then (if (rd x0 x5) = (rd x1 x5) then (g k x0 x1 (wrap64 (x5 + 1))) else (some false)) else (none)) else (none)) else (some true))
    (a b : List Int) (h : a.length ≤ 140737488355328) : Ev (fun k => f k a b) (decide (a = b)) := by
  by_cases hl : a.length = b.length
  · exact Ev.congr (fun k => by rw [hf, if_pos (by omega)]; rfl) (eq_loop hg a b hl h a.length 0 (by omega))
  · have : ¬ a = b := fun e => hl (by rw [e])
    rw [decide_eq_false this]
    exact Ev.congr (f := fun _ => some false) (fun k => by rw [hf, if_neg (by omega)]) (Ev.now _)
theorem eq_refl_ev {f : Nat → List Int → List Int → Option Bool} {g : Nat → List Int → List Int → Int → Option Bool}
    (hf : ∀ k l0 l1, f k l0 l1 = if (l0.length : Int) = (l1.length : Int) then (g k l0 l1 0) else (some false))
    (hg : ∀ k x0 x1 x5, g (k + 1) x0 x1 x5 = if x5 < (x0.length : Int) then (if 0 ≤ x5 then (if x5 < (x1.length : Int) then (if (rd x0 x5) = (rd x1 x5) then (g k x0 x1 (wrap64 (x5 + 1))) else (some false)) else (none)) else (none)) else (some true))
    (a : List Int) (h : a.length ≤ 140737488355328) : Ev (fun k => f k a a) true := by
  have := eq_ev hf hg a a h
  rwa [decide_eq_true rfl] at this
end Go.Proofs.YtkgnjfoclhkgkaaDoor.NimGo
