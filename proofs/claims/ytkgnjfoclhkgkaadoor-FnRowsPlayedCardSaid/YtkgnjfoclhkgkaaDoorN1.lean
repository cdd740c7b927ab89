/- Bits of Go numbers as bits of natural numbers; lists. -/
import Derived.Test.YtkgnjfoclhkgkaaDoorWMore
import Derived.Laws.BitsLemmas
import Derived.Test.YtkgnjfoclhkgkaaDoorWSized
namespace Go.Proofs.YtkgnjfoclhkgkaaDoor.PrintWords
open Go.ChangeShapes Go.WideShapes
/-- the same fact, under the name by which a row of a law over slices calls it -/
theorem sized_ints {H : Type} {enc : TypeId × Value → H} {P : Program} {W : World} {base : Nat} {spare : Nat → Bool} {held : Bool} {t e : TypeId} {k : IntKind} {a : Option Addr} {len cap : Nat} {d : DataW H} {ps : List MemPlace} {ts : List TypeId} {ds : List (DataW H)} {j : Nat}
    (hsz : (DataW.weightsEach P ts ds).all (· ≤ reachBytes) = true) (ht : ts[j]? = some t) (hd : ds[j]? = some d) (hu : P.underlying t = some (.slice e)) (he : P.underlying e = some (.int k)) (hc : P.cellsOf e = 1) {B : Nat} (hB : P.bytesOf e = B)
    (h : DataW.Trod enc P W base spare held t (.slice a len cap) d ps) : len * B ≤ 140737488351232 :=
  Go.Proofs.YtkgnjfoclhkgkaaDoorW.PrintWords.sized_ints hsz ht hd hu he hc hB h
end Go.Proofs.YtkgnjfoclhkgkaaDoor.PrintWords
namespace Go.Proofs.YtkgnjfoclhkgkaaDoor.NimF
end Go.Proofs.YtkgnjfoclhkgkaaDoor.NimF
namespace Go.Proofs.YtkgnjfoclhkgkaaDoor.NimGo
open Go.RowKit Go.Proofs.YtkgnjfoclhkgkaaDoorW.PrintWords Go.Proofs.YtkgnjfoclhkgkaaDoorW.PrintMore Go.Proofs.YtkgnjfoclhkgkaaDoor.NimF
theorem wf_u16 {a : Int} (h : (Lit.int .u16 a).wf = true) : ∃ n : Nat, a = n ∧ n < 65536 := by
  simp [Lit.wf, IntKind.min, IntKind.max, IntKind.bits, IntKind.signed] at h
  exact ⟨a.toNat, by omega, by omega⟩

theorem bits_xor_nat (k : IntKind) (j : Nat) (hj : j ≤ k.bits) (hk : ∀ n : Int, 0 ≤ n → n < 2 ^ j → k.wrap n = n) (a b : Nat) (ha : a < 2 ^ j) (hb : b < 2 ^ j) :
    Go.bits .xor k a b = ((a ^^^ b : Nat) : Int) := by
  have hp : 2 ^ j ≤ 2 ^ k.bits := Nat.pow_le_pow_right (by decide) hj
  have ha' : a % 2 ^ k.bits = a := Nat.mod_eq_of_lt (Nat.lt_of_lt_of_le ha hp)
  have hb' : b % 2 ^ k.bits = b := Nat.mod_eq_of_lt (Nat.lt_of_lt_of_le hb hp)
  have cast : ∀ n : Nat, n < 2 ^ j → ((n : Nat) : Int) < 2 ^ j := fun n h => by exact_mod_cast h
  simp only [Go.bits, BitVec.ofInt_natCast, BitVec.toNat_xor, BitVec.toNat_ofNat, ha', hb']
  exact hk _ (Int.natCast_nonneg _) (cast _ (Nat.xor_lt_two_pow ha hb))

theorem wraps_u16 (n : Int) (h₀ : 0 ≤ n) (h₁ : n < 2 ^ 16) : IntKind.u16.wrap n = n := by
  simp [IntKind.wrap, IntKind.bits, IntKind.signed]; omega
theorem wraps_u32 (n : Int) (h₀ : 0 ≤ n) (h₁ : n < 2 ^ 32) : IntKind.u32.wrap n = n := by
  simp [IntKind.wrap, IntKind.bits, IntKind.signed]; omega

theorem xor16 {a b : Nat} (ha : a < 65536) (hb : b < 65536) : Go.bits .xor .u16 (a : Int) b = ((a ^^^ b : Nat) : Int) :=
  bits_xor_nat .u16 16 (by decide) wraps_u16 a b ha hb
theorem xor32 {a b : Nat} (ha : a < 65536) (hb : b < 65536) : Go.bits .xor .u32 (a : Int) b = ((a ^^^ b : Nat) : Int) :=
  bits_xor_nat .u32 32 (by decide) wraps_u32 a b (by omega) (by omega)
theorem or32 {a b : Nat} (ha : a < 65536) (hb : b < 65536) : Go.bits .or .u32 (a : Int) b = ((a ||| b : Nat) : Int) :=
  (bits_nat .u32 32 (by decide) wraps_u32 a b (by omega) (by omega)).2
theorem and32 {a b : Nat} (ha : a < 65536) (hb : b < 65536) : Go.bits .and .u32 (a : Int) b = ((a &&& b : Nat) : Int) :=
  (bits_nat .u32 32 (by decide) wraps_u32 a b (by omega) (by omega)).1

theorem shr_nat (k : IntKind) (a s : Nat) (hs : s ≤ k.bits) : shr k (a : Int) (s : Int) = ((a >>> s : Nat) : Int) := by
  unfold shr
  rw [Int.toNat_natCast, Nat.min_eq_left hs, Nat.shiftRight_eq_div_pow]
  simp
theorem shr16 {a s : Nat} (hs : s ≤ 16) : shr .u16 (a : Int) (s : Int) = ((a >>> s : Nat) : Int) := shr_nat .u16 a s hs
theorem shr32 {a s : Nat} (hs : s ≤ 16) : shr .u32 (a : Int) (s : Int) = ((a >>> s : Nat) : Int) := shr_nat .u32 a s (by simp [IntKind.bits]; omega)
theorem shl_nat (k : IntKind) (a s : Nat) (hs : s ≤ k.bits) : shl k (a : Int) (s : Int) = k.wrap ((a <<< s : Nat) : Int) := by
  unfold shl
  rw [Int.toNat_natCast, Nat.min_eq_left hs, Nat.shiftLeft_eq]
  simp
theorem shl32 {a s : Nat} (hs : s ≤ 16) (ha : a < 65536) : shl .u32 (a : Int) (s : Int) = ((a <<< s : Nat) : Int) := by
  rw [shl_nat .u32 a s (by simp [IntKind.bits]; omega)]
  apply wraps_u32
  · exact Int.natCast_nonneg _
  · rw [Nat.shiftLeft_eq]
    have h1 : a * 2 ^ s ≤ 65535 * 2 ^ 16 := Nat.mul_le_mul (by omega) (Nat.pow_le_pow_right (by omega) hs)
    omega
theorem shl16 {s : Nat} (hs : s ≤ 15) : shl .u16 1 (s : Int) = ((1 <<< s : Nat) : Int) := by
  have := shl_nat .u16 1 s (by simp [IntKind.bits]; omega)
  rw [show ((1 : Nat) : Int) = 1 from rfl] at this
  rw [this]
  apply wraps_u16
  · exact Int.natCast_nonneg _
  · rw [Nat.shiftLeft_eq]
    have h1 : 1 * 2 ^ s ≤ 1 * 2 ^ 15 := Nat.mul_le_mul (by omega) (Nat.pow_le_pow_right (by omega) hs)
    omega
theorem wraps16n {n : Nat} (h : n < 65536) : IntKind.u16.wrap (n : Int) = n := wraps_u16 _ (Int.natCast_nonneg _) (by omega)
/-! lists, and the loops that the statements share -/
theorem w64s {i : Nat} (h : i < 4611686018427387904) : wrap64 ((i : Int) + 1) = ((i + 1 : Nat) : Int) := by
  unfold wrap64; omega
theorem w64i {x : Int} (h0 : -4611686018427387904 ≤ x) (h : x < 4611686018427387904) : wrap64 x = x := by
  unfold wrap64; omega
theorem rd_nat (xs : List Int) (i : Nat) : rd xs (i : Int) = xs.getD i 0 := by simp [rd]
theorem take_set_succ {x a : List Int} {i : Nat} {v : Int} (hi : i < x.length) (ht : x.take i = a.take i) (hv : a[i]? = some v) : (x.set i v).take (i + 1) = a.take (i + 1) := by
  apply List.ext_getElem?
  intro j
  have hj := congrArg (fun l => l[j]?) ht
  simp only [List.getElem?_take] at hj
  simp only [List.getElem?_take, List.getElem?_set]
  by_cases h1 : j < i
  · have h2 : j < i + 1 := by omega
    have h3 : ¬ i = j := by omega
    simp only [h1, if_true] at hj
    simp only [h2, h3, if_true, if_false]; exact hj
  · by_cases h2 : j = i
    · subst h2
      simp [hi, hv]
    · have h3 : ¬ j < i + 1 := by omega
      simp [h3]
theorem getD_some {a : List Int} {i : Nat} (h : i < a.length) : a[i]? = some (a.getD i 0) := by
  simp [List.getD, h]

theorem to_loop {g : Nat → List Int → List Int → Int → Option (List Int)}
    (hg : ∀ k x0 x3 x4, g (k + 1) x0 x3 x4 = if x4 < (x0.length : Int) then (if 0 ≤ x4 then (if x4 < (x3.length : Int) then (g k x0 (x3.set (x4 : Int).toNat (rd x0 x4)) (wrap64 (x4 + 1))) else (none)) else (none)) else (some x3))
    (a : List Int) (h : a.length ≤ 140737488355328) : ∀ d i (x : List Int), i + d = a.length → x.length = a.length → x.take i = a.take i → Ev (fun k => g k a x (i : Int)) a := by
  intro d
  induction d with
  | zero =>
    intro i x hi hl ht
    have hxa : x = a := by
      rw [List.take_of_length_le (by omega), List.take_of_length_le (by omega)] at ht; exact ht
    subst hxa
    exact Ev.step (f := fun _ => some x) (fun k => by rw [hg, if_neg (by omega)]) (Ev.now _)
  | succ d ih =>
    intro i x hi hl ht
    refine Ev.step (f := fun k => g k a (x.set i (a.getD i 0)) ((i + 1 : Nat) : Int)) (fun k => ?_) (ih (i + 1) _ (by omega) (by simpa using hl) (take_set_succ (by omega) ht (getD_some (by omega))))
    rw [hg, if_pos (by omega), if_pos (by omega), if_pos (by omega), w64s (by omega), rd_nat, Int.toNat_natCast]

/-- a copy, element by element -/
theorem to_ev {f : Nat → List Int → Option (List Int)} {g : Nat → List Int → List Int → Int → Option (List Int)}
    (hf : ∀ k l0, f k l0 = if 0 ≤ (l0.length : Int) then (if ((l0.length : Int) : Int).toNat ≤ 140737488355328 then (g k l0 (List.replicate ((l0.length : Int) : Int).toNat 0) 0) else (none)) else (none))
    (hg : ∀ k x0 x3 x4, g (k + 1) x0 x3 x4 = if x4 < (x0.length : Int) then (if 0 ≤ x4 then (if x4 < (x3.length : Int) then (g k x0 (x3.set (x4 : Int).toNat (rd x0 x4)) (wrap64 (x4 + 1))) else (none)) else (none)) else (some x3))
    (a : List Int) (h : a.length ≤ 140737488355328) : Ev (fun k => f k a) a := by
  have e := to_loop hg a h a.length 0 (List.replicate ((a.length : Int) : Int).toNat 0) (by omega) (by simp) (by simp)
  exact Ev.congr (fun k => by rw [hf, if_pos (by omega), if_pos (by omega)]; rfl) e

theorem drop_eq_iff {a b : List Int} {i : Nat} (ha : i < a.length) (hb : i < b.length) : (a.drop i = b.drop i) ↔ (a.getD i 0 = b.getD i 0 ∧ a.drop (i + 1) = b.drop (i + 1)) := by
  have e1 : a.getD i 0 = a[i] := by simp [List.getD, ha]
  have e2 : b.getD i 0 = b[i] := by simp [List.getD, hb]
  rw [List.drop_eq_getElem_cons ha, List.drop_eq_getElem_cons hb, e1, e2, List.cons.injEq]

theorem eq_loop {g : Nat → List Int → List Int → Int → Option Bool}
    (hg : ∀ k x0 x1 x5, g (k + 1) x0 x1 x5 = if x5 < (x0.length : Int) then (if 0 ≤ x5 then (if x5 < (x1.length : Int) then (if (rd x0 x5) = (rd x1 x5) then (g k x0 x1 (wrap64 (x5 + 1))) else (some false)) else (none)) else (none)) else (some true))
    (a b : List Int) (hl : a.length = b.length) (h : a.length ≤ 140737488355328) : ∀ d i, i + d = a.length → Ev (fun k => g k a b (i : Int)) (decide (a.drop i = b.drop i)) := by
  intro d
  induction d with
  | zero =>
    intro i hi
    have : a.drop i = b.drop i := by rw [List.drop_eq_nil_of_le (by omega), List.drop_eq_nil_of_le (by omega)]
    rw [decide_eq_true this]
    exact Ev.step (f := fun _ => some true) (fun k => by rw [hg, if_neg (by omega)]) (Ev.now _)
  | succ d ih =>
    intro i hi
    have hd := drop_eq_iff (a := a) (b := b) (i := i) (by omega) (by omega)
    by_cases hv : a.getD i 0 = b.getD i 0
    · have e : decide (a.drop i = b.drop i) = decide (a.drop (i + 1) = b.drop (i + 1)) := by
        rw [Bool.eq_iff_iff]; simp only [decide_eq_true_eq]; rw [hd]; simp only [hv, true_and]
      rw [e]
      refine Ev.step (f := fun k => g k a b ((i + 1 : Nat) : Int)) (fun k => ?_) (ih (i + 1) (by omega))
      rw [hg, if_pos (by omega), if_pos (by omega), if_pos (by omega), rd_nat, rd_nat, if_pos hv, w64s (by omega)]
    · have e : decide (a.drop i = b.drop i) = false := decide_eq_false (fun x => hv (hd.1 x).1)
      rw [e]
      refine Ev.step (f := fun _ => some false) (fun k => ?_) (Ev.now _)
      rw [hg, if_pos (by omega), if_pos (by omega), if_pos (by omega), rd_nat, rd_nat, if_neg hv]

/-- two lists compared, element by element -/
theorem eq_ev {f : Nat → List Int → List Int → Option Bool} {g : Nat → List Int → List Int → Int → Option Bool}
    (hf : ∀ k l0 l1, f k l0 l1 = if (l0.length : Int) = (l1.length : Int) then (g k l0 l1 0) else (some false))
    (hg : ∀ k x0 x1 x5, g (k + 1) x0 x1 x5 = if x5 < (x0.length : Int) then (if 0 ≤ x5 then (if x5 < (x1.length : Int) then (if (rd x0 x5) = (rd x1 x5) then (g k x0 x1 (wrap64 (x5 + 1))) else (some false)) else (none)) else (none)) else (some true))
    (a b : List Int) (h : a.length ≤ 140737488355328) : Ev (fun k => f k a b) (decide (a = b)) := by
  by_cases hl : a.length = b.length
  · exact Ev.congr (fun k => by rw [hf, if_pos (by omega)]; rfl) (eq_loop hg a b hl h a.length 0 (by omega))
  · have : ¬ a = b := fun e => hl (by rw [e])
    rw [decide_eq_false this]
    exact Ev.congr (f := fun _ => some false) (fun k => by rw [hf, if_neg (by omega)]) (Ev.now _)
theorem eq_refl_ev {f : Nat → List Int → List Int → Option Bool} {g : Nat → List Int → List Int → Int → Option Bool}
    (hf : ∀ k l0 l1, f k l0 l1 = if (l0.length : Int) = (l1.length : Int) then (g k l0 l1 0) else (some false))
    (hg : ∀ k x0 x1 x5, g (k + 1) x0 x1 x5 = if x5 < (x0.length : Int) then (if 0 ≤ x5 then (if x5 < (x1.length : Int) then (if (rd x0 x5) = (rd x1 x5) then (g k x0 x1 (wrap64 (x5 + 1))) else (some false)) else (none)) else (none)) else (some true))
    (a : List Int) (h : a.length ≤ 140737488355328) : Ev (fun k => f k a a) true := by
  have := eq_ev hf hg a a h
  rwa [decide_eq_true rfl] at this

theorem eqn_loop {g : Nat → List Int → List Int → Int → Int → Option Bool}
    (hg : ∀ k x0 x1 x12 x13, g (k + 1) x0 x1 x12 x13 = if x13 < x12 then (if 0 ≤ x13 then (if x13 < (x0.length : Int) then (if x13 < (x1.length : Int) then (if (rd x0 x13) = (rd x1 x13) then (g k x0 x1 x12 (wrap64 (x13 + 1))) else (some false)) else (none)) else (none)) else (none)) else (some true))
    (a b : List Int) (hl : a.length = b.length) (h : a.length ≤ 140737488355328) : ∀ d i, i + d = a.length → Ev (fun k => g k a b (a.length : Int) (i : Int)) (decide (a.drop i = b.drop i)) := by
  intro d
  induction d with
  | zero =>
    intro i hi
    have : a.drop i = b.drop i := by rw [List.drop_eq_nil_of_le (by omega), List.drop_eq_nil_of_le (by omega)]
    rw [decide_eq_true this]
    exact Ev.step (f := fun _ => some true) (fun k => by rw [hg, if_neg (by omega)]) (Ev.now _)
  | succ d ih =>
    intro i hi
    have hd := drop_eq_iff (a := a) (b := b) (i := i) (by omega) (by omega)
    by_cases hv : a.getD i 0 = b.getD i 0
    · have e : decide (a.drop i = b.drop i) = decide (a.drop (i + 1) = b.drop (i + 1)) := by
        rw [Bool.eq_iff_iff]; simp only [decide_eq_true_eq]; rw [hd]; simp only [hv, true_and]
      rw [e]
      refine Ev.step (f := fun k => g k a b (a.length : Int) ((i + 1 : Nat) : Int)) (fun k => ?_) (ih (i + 1) (by omega))
      rw [hg, if_pos (by omega), if_pos (by omega), if_pos (by omega), if_pos (by omega), rd_nat, rd_nat, if_pos hv, w64s (by omega)]
    · have e : decide (a.drop i = b.drop i) = false := decide_eq_false (fun x => hv (hd.1 x).1)
      rw [e]
      refine Ev.step (f := fun _ => some false) (fun k => ?_) (Ev.now _)
      rw [hg, if_pos (by omega), if_pos (by omega), if_pos (by omega), if_pos (by omega), rd_nat, rd_nat, if_neg hv]
/-- the library's comparison of two lists -/
theorem eqn_ev {f : Nat → List Int → List Int → Option Bool} {g : Nat → List Int → List Int → Int → Int → Option Bool}
    (hf : ∀ k l0 l1, f k l0 l1 = if (l0.length : Int) = (l1.length : Int) then (g k l0 l1 (l0.length : Int) 0) else (some false))
    (hg : ∀ k x0 x1 x12 x13, g (k + 1) x0 x1 x12 x13 = if x13 < x12 then (if 0 ≤ x13 then (if x13 < (x0.length : Int) then (if x13 < (x1.length : Int) then (if (rd x0 x13) = (rd x1 x13) then (g k x0 x1 x12 (wrap64 (x13 + 1))) else (some false)) else (none)) else (none)) else (none)) else (some true))
    (a b : List Int) (h : a.length ≤ 140737488355328) : Ev (fun k => f k a b) (decide (a = b)) := by
  by_cases hl : a.length = b.length
  · exact Ev.congr (fun k => by rw [hf, if_pos (by omega)]; rfl) (eqn_loop hg a b hl h a.length 0 (by omega))
  · have : ¬ a = b := fun e => hl (by rw [e])
    rw [decide_eq_false this]
    exact Ev.congr (f := fun _ => some false) (fun k => by rw [hf, if_neg (by omega)]) (Ev.now _)

/-- what is written to tell a row's memory -/
def marks (K : IntKind) (c : Int) (n : Nat) : List Int := (List.range n).map fun (i : Nat) => K.wrap (c + (i : Int))
theorem marks_length (K : IntKind) (c : Int) (n : Nat) : (marks K c n).length = n := by simp [marks]
theorem marks_get {K : IntKind} {c : Int} {n i : Nat} (h : i < n) : (marks K c n)[i]? = some (K.wrap (c + (i : Int))) := by
  simp [marks, h]
theorem marks_getD {K : IntKind} {c : Int} {n i : Nat} (h : i < n) : (marks K c n).getD i 0 = K.wrap (c + (i : Int)) := by
  simp [List.getD, marks_get h]

theorem mark_loop {K : IntKind} {g : Nat → List Int → Int → Int → Option (Int × List Int)}
    (hg : ∀ k x0 x1 x5, g (k + 1) x0 x1 x5 = if x5 < (x0.length : Int) then (if 0 ≤ x5 then (g k (x0.set (x5 : Int).toNat (K.wrap (x1))) (wrap64 (x1 + 1)) (wrap64 (x5 + 1))) else (none)) else (some (x1, x0)))
    (n : Nat) (c : Int) (h0 : 0 ≤ c) (h : c + (n : Int) ≤ 4611686018427387900) : ∀ d i (x : List Int), i + d = n → x.length = n → x.take i = (marks K c n).take i → Ev (fun k => g k x (c + (i : Int)) (i : Int)) (c + (n : Int), marks K c n) := by
  intro d
  induction d with
  | zero =>
    intro i x hi hl ht
    have hxa : x = marks K c n := by
      rw [List.take_of_length_le (by omega), List.take_of_length_le (by rw [marks_length]; omega)] at ht; exact ht
    have hin : i = n := by omega
    subst hxa
    subst hin
    exact Ev.step (f := fun _ => some (c + (i : Int), marks K c i)) (fun k => by rw [hg, if_neg (by omega)]) (Ev.now _)
  | succ d ih =>
    intro i x hi hl ht
    refine Ev.step (f := fun k => g k (x.set i (K.wrap (c + (i : Int)))) (c + ((i + 1 : Nat) : Int)) ((i + 1 : Nat) : Int)) (fun k => ?_) (ih (i + 1) _ (by omega) (by simpa using hl) (take_set_succ (by omega) ht (marks_get (by omega))))
    rw [hg, if_pos (by omega), if_pos (by omega), w64s (by omega), w64i (by omega) (by omega), Int.toNat_natCast]
    congr 1
    omega
theorem mark_ev {K : IntKind} {f : Nat → List Int → Int → Option (Int × List Int)} {g : Nat → List Int → Int → Int → Option (Int × List Int)}
    (hf : ∀ k l0 a1, f k l0 a1 = g k l0 a1 0)
    (hg : ∀ k x0 x1 x5, g (k + 1) x0 x1 x5 = if x5 < (x0.length : Int) then (if 0 ≤ x5 then (g k (x0.set (x5 : Int).toNat (K.wrap (x1))) (wrap64 (x1 + 1)) (wrap64 (x5 + 1))) else (none)) else (some (x1, x0)))
    (l : List Int) (c : Int) (h0 : 0 ≤ c) (h : c + (l.length : Int) ≤ 4611686018427387900) : Ev (fun k => f k l c) (c + (l.length : Int), marks K c l.length) := by
  have e := mark_loop hg l.length c h0 h l.length 0 l (by omega) rfl (by simp)
  refine Ev.congr (fun k => by rw [hf]) (f := fun k => g k l c 0) ?_
  simpa using e
theorem held_loop {K : IntKind} {g : Nat → List Int → Int → Int → Option Int}
    (hg : ∀ k x0 x1 x5, g (k + 1) x0 x1 x5 = if x5 < (x0.length : Int) then (if 0 ≤ x5 then (if (rd x0 x5) = (K.wrap (x1)) then (g k x0 (wrap64 (x1 + 1)) (wrap64 (x5 + 1))) else (some (-1))) else (none)) else (some x1))
    (n : Nat) (c : Int) (h0 : 0 ≤ c) (h : c + (n : Int) ≤ 4611686018427387900) : ∀ d i, i + d = n → Ev (fun k => g k (marks K c n) (c + (i : Int)) (i : Int)) (c + (n : Int)) := by
  intro d
  have hm := marks_length K c n
  induction d with
  | zero =>
    intro i hi
    have hin : i = n := by omega
    subst hin
    exact Ev.step (f := fun _ => some (c + (i : Int))) (fun k => by rw [hg, if_neg (by omega)]) (Ev.now _)
  | succ d ih =>
    intro i hi
    refine Ev.step (f := fun k => g k (marks K c n) (c + ((i + 1 : Nat) : Int)) ((i + 1 : Nat) : Int)) (fun k => ?_) (ih (i + 1) (by omega))
    rw [hg, if_pos (by omega), if_pos (by omega), rd_nat, marks_getD (by omega), if_pos rfl, w64s (by omega), w64i (by omega) (by omega)]
    congr 1
    omega
theorem held_ev {K : IntKind} {f : Nat → List Int → Int → Option Int} {g : Nat → List Int → Int → Int → Option Int}
    (hf : ∀ k l0 a1, f k l0 a1 = g k l0 a1 0)
    (hg : ∀ k x0 x1 x5, g (k + 1) x0 x1 x5 = if x5 < (x0.length : Int) then (if 0 ≤ x5 then (if (rd x0 x5) = (K.wrap (x1)) then (g k x0 (wrap64 (x1 + 1)) (wrap64 (x5 + 1))) else (some (-1))) else (none)) else (some x1))
    (n : Nat) (c : Int) (h0 : 0 ≤ c) (h : c + (n : Int) ≤ 4611686018427387900) : Ev (fun k => f k (marks K c n) c) (c + (n : Int)) := by
  have e := held_loop hg n c h0 h n 0 (by omega)
  refine Ev.congr (fun k => by rw [hf]) (f := fun k => g k (marks K c n) c 0) ?_
  simpa using e

end Go.Proofs.YtkgnjfoclhkgkaaDoor.NimGo
