/- Plain facts on the product of nimbers: it is commutative, associative, and distributes over sums. -/
namespace Go.Proofs.Ytabdpdnofljkcaa.NimF

/-- the product of nimbers on the low `2^l` bits of both -/
def nm : Nat → Nat → Nat → Nat
  | 0, a, b => (a &&& b) &&& 1
  | l + 1, a, b =>
    ((nm l (a >>> 2 ^ l) (b >>> 2 ^ l) ^^^ nm l (a >>> 2 ^ l) b ^^^ nm l a (b >>> 2 ^ l)) <<< 2 ^ l) ^^^
      (nm l a b ^^^ nm l (nm l (a >>> 2 ^ l) (b >>> 2 ^ l)) (1 <<< (2 ^ l - 1)))

theorem nm_succ (l a b : Nat) : nm (l + 1) a b =
    ((nm l (a >>> 2 ^ l) (b >>> 2 ^ l) ^^^ nm l (a >>> 2 ^ l) b ^^^ nm l a (b >>> 2 ^ l)) <<< 2 ^ l) ^^^
      (nm l a b ^^^ nm l (nm l (a >>> 2 ^ l) (b >>> 2 ^ l)) (1 <<< (2 ^ l - 1))) := rfl

theorem nm_comm (l : Nat) : ∀ a b, nm l a b = nm l b a := by
  induction l with
  | zero => intro a b; simp only [nm]; rw [Nat.and_comm a b]
  | succ l ih =>
    intro a b
    rw [nm_succ, nm_succ, ih b a, ih (b >>> 2 ^ l) (a >>> 2 ^ l), ih (b >>> 2 ^ l) a, ih b (a >>> 2 ^ l)]
    congr 2
    rw [Nat.xor_assoc, Nat.xor_assoc]; congr 1; exact Nat.xor_comm _ _

theorem nm_xor_left (l : Nat) : ∀ a b c, nm l (a ^^^ b) c = nm l a c ^^^ nm l b c := by
  induction l with
  | zero => intro a b c; simp only [nm]; rw [Nat.and_xor_distrib_right, Nat.and_xor_distrib_right]
  | succ l ih =>
    intro a b c
    simp only [nm_succ, Nat.shiftRight_xor_distrib, ih, Nat.shiftLeft_xor_distrib]
    ac_rfl

theorem nm_xor_right (l a b c : Nat) : nm l a (b ^^^ c) = nm l a b ^^^ nm l a c := by
  rw [nm_comm, nm_xor_left, nm_comm l b, nm_comm l c]

theorem nm_zero_left (l a : Nat) : nm l 0 a = 0 := by
  have h := nm_xor_left l 0 0 a
  rw [Nat.xor_self, Nat.xor_self] at h; exact h

theorem nm_zero_right (l a : Nat) : nm l a 0 = 0 := by rw [nm_comm, nm_zero_left]

theorem two_pow_succ_two (l : Nat) : 2 ^ (l + 1) = 2 ^ l + 2 ^ l := by rw [Nat.pow_succ]; omega

theorem nm_lt (l : Nat) : ∀ a b, nm l a b < 2 ^ 2 ^ l := by
  induction l with
  | zero => intro a b; simp only [nm]; exact Nat.and_lt_two_pow _ (by decide)
  | succ l ih =>
    intro a b
    rw [nm_succ, two_pow_succ_two]
    apply Nat.xor_lt_two_pow
    · rw [Nat.shiftLeft_eq, Nat.pow_add]
      exact Nat.mul_lt_mul_of_pos_right (Nat.xor_lt_two_pow (Nat.xor_lt_two_pow (ih _ _) (ih _ _)) (ih _ _)) (Nat.two_pow_pos _)
    · rw [Nat.pow_add]
      refine Nat.lt_of_lt_of_le (Nat.xor_lt_two_pow (ih _ _) (ih _ _)) (Nat.le_mul_of_pos_right _ (Nat.two_pow_pos _))

theorem testBit_shl (x i j : Nat) : (x <<< i).testBit j = (decide (i ≤ j) && x.testBit (j - i)) := by
  rw [Nat.testBit_shiftLeft]

/-- only the low bits count -/
theorem nm_mod_left (l : Nat) : ∀ a b, nm l (a % 2 ^ 2 ^ l) b = nm l a b := by
  induction l with
  | zero =>
    intro a b; simp only [nm]
    rw [Nat.and_assoc, Nat.and_assoc, Nat.and_comm b 1, ← Nat.and_assoc, ← Nat.and_assoc]
    congr 1
    rw [Nat.and_one_is_mod, Nat.and_one_is_mod]
    simp
  | succ l ih =>
    intro a b
    have e1 : ∀ c, nm l (a % 2 ^ 2 ^ (l + 1)) c = nm l a c := by
      intro c
      rw [← ih (a % 2 ^ 2 ^ (l + 1)) c, ← ih a c, two_pow_succ_two, Nat.pow_add, Nat.mod_mul_right_mod]
    have e2 : ∀ c, nm l ((a % 2 ^ 2 ^ (l + 1)) >>> 2 ^ l) c = nm l (a >>> 2 ^ l) c := by
      intro c
      rw [← ih (_ >>> _) c, ← ih (a >>> _) c]
      congr 1
      apply Nat.eq_of_testBit_eq
      intro i
      simp only [Nat.testBit_mod_two_pow, Nat.testBit_shiftRight, two_pow_succ_two]
      by_cases h : i < 2 ^ l
      · have : 2 ^ l + i < 2 ^ l + 2 ^ l := by omega
        simp [h]
      · simp [h]
    rw [nm_succ, nm_succ, e2, e2, e1, e1]

theorem nm_mod_right (l a b : Nat) : nm l a (b % 2 ^ 2 ^ l) = nm l a b := by
  rw [nm_comm, nm_mod_left, nm_comm]

theorem nm_shl_left (l x b : Nat) : nm l (x <<< 2 ^ l) b = 0 := by
  rw [← nm_mod_left, Nat.shiftLeft_eq, Nat.mul_mod_left, nm_zero_left]

/-- the lower half of a product -/
theorem nm_low (l a b c : Nat) : nm l (nm (l + 1) a b) c = nm l (nm l a b) c ^^^ nm l (nm l (nm l (a >>> 2 ^ l) (b >>> 2 ^ l)) (1 <<< (2 ^ l - 1))) c := by
  rw [nm_succ, nm_xor_left, nm_shl_left, Nat.zero_xor, nm_xor_left]

/-- the upper half of a product -/
theorem nm_high (l a b : Nat) : nm (l + 1) a b >>> 2 ^ l = nm l (a >>> 2 ^ l) (b >>> 2 ^ l) ^^^ nm l (a >>> 2 ^ l) b ^^^ nm l a (b >>> 2 ^ l) := by
  rw [nm_succ, Nat.shiftRight_xor_distrib, Nat.shiftLeft_shiftRight, Nat.shiftRight_eq_zero (_ ^^^ nm l (nm l _ _) _) _ (Nat.xor_lt_two_pow (nm_lt _ _ _) (nm_lt _ _ _)), Nat.xor_zero]

theorem nm_assoc (l : Nat) : ∀ a b c, nm l (nm l a b) c = nm l a (nm l b c) := by
  induction l with
  | zero => intro a b c; simp only [nm]; ac_rfl
  | succ l ih =>
    intro a b c
    rw [nm_comm (l + 1) a (nm (l + 1) b c)]
    rw [nm_succ l (nm (l + 1) a b) c, nm_succ l (nm (l + 1) b c) a]
    simp only [nm_low, nm_high, nm_xor_left]
    generalize a >>> 2 ^ l = a1
    generalize b >>> 2 ^ l = b1
    generalize c >>> 2 ^ l = c1
    generalize 1 <<< (2 ^ l - 1) = d
    have : Std.Commutative (nm l) := ⟨nm_comm l⟩
    have : Std.Associative (nm l) := ⟨ih⟩
    ac_rfl

theorem nm_one_left (l : Nat) : ∀ a, nm l 1 a = a % 2 ^ 2 ^ l := by
  induction l with
  | zero =>
    intro a; simp only [nm]
    rw [Nat.and_comm 1 a, Nat.and_assoc, Nat.and_self, Nat.and_one_is_mod]
  | succ l ih =>
    intro a
    have e : 1 >>> 2 ^ l = 0 := Nat.shiftRight_eq_zero _ _ (by
      have := Nat.pow_le_pow_right (show 0 < 2 by omega) (Nat.two_pow_pos l)
      omega)
    rw [nm_succ, e, nm_zero_left, nm_zero_left, nm_zero_left, ih, ih, Nat.zero_xor, Nat.zero_xor, Nat.xor_zero]
    apply Nat.eq_of_testBit_eq
    intro i
    simp only [Nat.testBit_xor, Nat.testBit_shiftLeft, Nat.testBit_mod_two_pow, Nat.testBit_shiftRight, two_pow_succ_two]
    by_cases h : i < 2 ^ l
    · have h1 : ¬ 2 ^ l ≤ i := by omega
      have h2 : i < 2 ^ l + 2 ^ l := by omega
      simp [h, h1, h2]
    · have h1 : 2 ^ l ≤ i := by omega
      by_cases h2 : i < 2 ^ l + 2 ^ l
      · have h3 : i - 2 ^ l < 2 ^ l := by omega
        have h4 : 2 ^ l + (i - 2 ^ l) = i := by omega
        simp [h, h1, h2, h3, h4]
      · have h3 : ¬ i - 2 ^ l < 2 ^ l := by omega
        simp [h, h2, h3]

/-- lesser levels -/
theorem nm_level (l a b : Nat) (ha : a < 2 ^ 2 ^ l) (hb : b < 2 ^ 2 ^ l) : nm (l + 1) a b = nm l a b := by
  rw [nm_succ, Nat.shiftRight_eq_zero _ _ ha, Nat.shiftRight_eq_zero _ _ hb, nm_zero_left, nm_zero_left, nm_zero_left, nm_zero_right]
  simp

/-- one product for three -/
theorem nm_karatsuba (l a1 a0 b1 b0 : Nat) :
    nm l (a0 ^^^ a1) (b0 ^^^ b1) ^^^ nm l a0 b0 = nm l a1 b1 ^^^ nm l a1 b0 ^^^ nm l a0 b1 := by
  rw [nm_xor_left, nm_xor_right, nm_xor_right]
  generalize nm l a0 b0 = x
  generalize nm l a0 b1 = y
  generalize nm l a1 b0 = z
  generalize nm l a1 b1 = t
  have : x ^^^ y ^^^ (z ^^^ t) ^^^ x = x ^^^ x ^^^ (t ^^^ z ^^^ y) := by ac_rfl
  rw [this, Nat.xor_self, Nat.zero_xor]

/-- the product with the highest bit of a level -/
theorem nm_half (l x : Nat) : nm (l + 1) x (1 <<< (2 ^ (l + 1) - 1)) =
    ((nm l (x >>> 2 ^ l) (1 <<< (2 ^ l - 1)) ^^^ nm l x (1 <<< (2 ^ l - 1))) <<< 2 ^ l) ^^^ nm l (nm l (x >>> 2 ^ l) (1 <<< (2 ^ l - 1))) (1 <<< (2 ^ l - 1)) := by
  have hp := Nat.two_pow_pos l
  have e1 : 1 <<< (2 ^ (l + 1) - 1) >>> 2 ^ l = 1 <<< (2 ^ l - 1) := by
    rw [two_pow_succ_two, show 2 ^ l + 2 ^ l - 1 = (2 ^ l - 1) + 2 ^ l by omega, Nat.shiftLeft_add, Nat.shiftLeft_shiftRight]
  have e2 : ∀ c, nm l c (1 <<< (2 ^ (l + 1) - 1)) = 0 := by
    intro c
    rw [nm_comm, two_pow_succ_two, show 2 ^ l + 2 ^ l - 1 = (2 ^ l - 1) + 2 ^ l by omega, Nat.shiftLeft_add, nm_shl_left]
  rw [nm_succ, e1, e2, e2, Nat.xor_zero, Nat.zero_xor]

theorem or_shl' {a b s : Nat} (h : a < 2 ^ s) : a ||| b <<< s = b <<< s ^^^ a := by
  apply Nat.eq_of_testBit_eq
  intro i
  rw [Nat.testBit_or, Nat.testBit_xor, Nat.testBit_shiftLeft]
  by_cases hi : s ≤ i
  · have : a.testBit i = false := Nat.testBit_lt_two_pow (Nat.lt_of_lt_of_le h (Nat.pow_le_pow_right (by omega) hi))
    simp [this]
  · simp [hi]

/-! ### the field of 65536 numbers -/
theorem nm4_lt (a b : Nat) : nm 4 a b < 65536 := nm_lt 4 a b

/-- powers -/
def npow (a : Nat) : Nat → Nat
  | 0 => 1
  | n + 1 => nm 4 (npow a n) a

theorem npow_lt (a n : Nat) : npow a n < 65536 := by
  cases n with
  | zero => show 1 < 65536; decide
  | succ n => exact nm4_lt _ _

theorem nm4_one_left {a : Nat} (h : a < 65536) : nm 4 1 a = a := by
  rw [nm_one_left]; exact Nat.mod_eq_of_lt h
theorem nm4_one_right {a : Nat} (h : a < 65536) : nm 4 a 1 = a := by
  rw [nm_comm]; exact nm4_one_left h

theorem npow_add (a m : Nat) : ∀ n, npow a (m + n) = nm 4 (npow a m) (npow a n) := by
  intro n
  induction n with
  | zero => rw [Nat.add_zero]; exact (nm4_one_right (npow_lt a m)).symm
  | succ n ih =>
    show nm 4 (npow a (m + n)) a = nm 4 (npow a m) (nm 4 (npow a n) a)
    rw [ih, nm_assoc]

theorem npow_one {a : Nat} (h : a < 65536) : npow a 1 = a := nm4_one_left h

theorem npow_sq {a : Nat} : ∀ n, npow (nm 4 a a) n = npow a (2 * n) := by
  intro n
  induction n with
  | zero => rfl
  | succ n ih =>
    show nm 4 (npow (nm 4 a a) n) (nm 4 a a) = npow a (2 * n + 1 + 1)
    rw [ih]
    show _ = nm 4 (nm 4 (npow a (2 * n)) a) a
    rw [nm_assoc]

/-- squares of squares -/
def sqn : Nat → Nat → Nat
  | 0, a => a
  | n + 1, a => sqn n (nm 4 a a)

theorem sq_xor (a b : Nat) : nm 4 (a ^^^ b) (a ^^^ b) = nm 4 a a ^^^ nm 4 b b := by
  rw [nm_xor_left, nm_xor_right, nm_xor_right, nm_comm 4 b a]
  generalize nm 4 a a = x
  generalize nm 4 a b = y
  generalize nm 4 b b = z
  have : x ^^^ y ^^^ (y ^^^ z) = x ^^^ z ^^^ (y ^^^ y) := by ac_rfl
  rw [this, Nat.xor_self, Nat.xor_zero]

theorem sqn_xor : ∀ n a b, sqn n (a ^^^ b) = sqn n a ^^^ sqn n b := by
  intro n
  induction n with
  | zero => intro a b; rfl
  | succ n ih => intro a b; show sqn n _ = sqn n _ ^^^ sqn n _; rw [sq_xor, ih]

theorem sqn_npow {a : Nat} (h : a < 65536) : ∀ n, sqn n a = npow a (2 ^ n) := by
  intro n
  induction n generalizing a with
  | zero => exact (npow_one h).symm
  | succ n ih =>
    show sqn n (nm 4 a a) = _
    rw [ih (nm4_lt a a), npow_sq, Nat.pow_succ, Nat.mul_comm]

theorem sqn_succ (n : Nat) : ∀ a, sqn (n + 1) a = nm 4 (sqn n a) (sqn n a) := by
  induction n with
  | zero => intro a; rfl
  | succ n ih => intro a; exact ih (nm 4 a a)

theorem sqn_lt {a : Nat} (h : a < 65536) (n : Nat) : sqn n a < 65536 := by
  cases n with
  | zero => exact h
  | succ n => rw [sqn_succ]; exact nm4_lt _ _

theorem split_top {n a : Nat} (h : a < 2 ^ (n + 1)) (h2 : ¬ a < 2 ^ n) : a = 2 ^ n ^^^ (a - 2 ^ n) ∧ a - 2 ^ n < 2 ^ n := by
  have hlt : a - 2 ^ n < 2 ^ n := by rw [Nat.pow_succ] at h; omega
  refine ⟨?_, hlt⟩
  have e := Nat.two_pow_add_eq_or_of_lt hlt 1
  have o := or_shl' (b := 1) (s := n) hlt
  rw [Nat.mul_one] at e
  have hs : 1 <<< n = 2 ^ n := by rw [Nat.shiftLeft_eq, Nat.one_mul]
  rw [hs] at o
  rw [← o, Nat.or_comm, ← e]; omega

/-- what holds at sums where it holds at both, and at each bit, holds -/
theorem fix_all (f : Nat → Nat) (hx : ∀ a b, f (a ^^^ b) = f a ^^^ f b) (h0 : f 0 = 0) (m : Nat) (hb : ∀ i, i < m → f (2 ^ i) = 2 ^ i) : ∀ n, n ≤ m → ∀ a, a < 2 ^ n → f a = a := by
  intro n
  induction n with
  | zero => intro _ a ha; have : a = 0 := by simpa using ha
            subst this; exact h0
  | succ n ih =>
    intro hn a ha
    by_cases h : a < 2 ^ n
    · exact ih (by omega) a h
    · obtain ⟨e, hl⟩ := split_top ha h
      have e2 := ih (by omega) _ hl
      have e3 := hb n (by omega)
      have e4 := hx (2 ^ n) (a - 2 ^ n)
      rw [← e, e2, e3, ← e] at e4
      exact e4

theorem bits16 : ∀ i, i < 16 → sqn 16 (2 ^ i) = 2 ^ i := by decide +kernel
theorem bits8 : ∀ i, i < 8 → sqn 8 (2 ^ i) = 2 ^ i := by decide +kernel
theorem sqn_zero : ∀ n, sqn n 0 = 0 := by
  intro n
  induction n with
  | zero => rfl
  | succ n ih => show sqn n (nm 4 0 0) = 0; rw [nm_zero_left]; exact ih
theorem sqn16 {a : Nat} (h : a < 65536) : sqn 16 a = a := fix_all (sqn 16) (sqn_xor 16) (sqn_zero 16) 16 bits16 16 (by omega) a h
theorem sqn8 {a : Nat} (h : a < 256) : sqn 8 a = a := fix_all (sqn 8) (sqn_xor 8) (sqn_zero 8) 8 bits8 8 (by omega) a h

/-- no number is its own square but for the highest bit of a level -/
theorem no_root : ∀ l, l ≤ 3 → ∀ t, t < 2 ^ 2 ^ l → nm l t t ^^^ t ≠ 1 <<< (2 ^ l - 1) := by
  have h0 : ∀ t, t < 2 → nm 0 t t ^^^ t ≠ 1 := by decide +kernel
  have h1 : ∀ t, t < 4 → nm 1 t t ^^^ t ≠ 2 := by decide +kernel
  have h2 : ∀ t, t < 16 → nm 2 t t ^^^ t ≠ 8 := by decide +kernel
  have h3 : ∀ t, t < 256 → nm 3 t t ^^^ t ≠ 128 := by decide +kernel
  intro l hl t ht
  have : l = 0 ∨ l = 1 ∨ l = 2 ∨ l = 3 := by omega
  rcases this with rfl | rfl | rfl | rfl
  · exact h0 t ht
  · exact h1 t ht
  · exact h2 t ht
  · exact h3 t ht

theorem xor_eq_zero {a b : Nat} (h : a ^^^ b = 0) : a = b := by
  have : a ^^^ b ^^^ b = b := by rw [h, Nat.zero_xor]
  rwa [Nat.xor_assoc, Nat.xor_self, Nat.xor_zero] at this

theorem conj_mul (l a1 a0 : Nat) (h1 : a1 < 2 ^ 2 ^ l) (h0 : a0 < 2 ^ 2 ^ l) :
    nm (l + 1) (a1 <<< 2 ^ l ^^^ a0) (a1 <<< 2 ^ l ^^^ (a0 ^^^ a1)) = nm l a0 a0 ^^^ nm l a0 a1 ^^^ nm l (nm l a1 a1) (1 <<< (2 ^ l - 1)) := by
  have hi : ∀ x y, y < 2 ^ 2 ^ l → (x <<< 2 ^ l ^^^ y) >>> 2 ^ l = x := by
    intro x y hy
    rw [Nat.shiftRight_xor_distrib, Nat.shiftLeft_shiftRight, Nat.shiftRight_eq_zero _ _ hy, Nat.xor_zero]
  have lo : ∀ x y c, nm l (x <<< 2 ^ l ^^^ y) c = nm l y c := by
    intro x y c; rw [nm_xor_left, nm_shl_left, Nat.zero_xor]
  have lo2 : ∀ x y c, nm l c (x <<< 2 ^ l ^^^ y) = nm l c y := by
    intro x y c; rw [nm_comm, lo, nm_comm]
  rw [nm_succ, hi a1 a0 h0, hi a1 _ (Nat.xor_lt_two_pow h0 h1), lo, lo2, lo2, lo]
  rw [nm_xor_right, nm_xor_right, nm_comm l a1 a0]
  generalize nm l a1 a1 = x
  generalize nm l a0 a1 = y
  generalize nm l a0 a0 = z
  have : x ^^^ (y ^^^ x) ^^^ y = (x ^^^ x) ^^^ (y ^^^ y) := by ac_rfl
  rw [this, Nat.xor_self, Nat.xor_self, Nat.xor_self, Nat.zero_shiftLeft, Nat.zero_xor]

theorem inv_ex : ∀ l, l ≤ 4 → ∀ a, 0 < a → a < 2 ^ 2 ^ l → ∃ b, b < 2 ^ 2 ^ l ∧ nm l a b = 1 := by
  intro l
  induction l with
  | zero =>
    intro _ a h0 h
    have : a = 1 := by have : a < 2 := h
                       omega
    subst this
    exact ⟨1, by decide, rfl⟩
  | succ l ih =>
    intro hl a h0 h
    have ih := ih (by omega)
    have hpos := Nat.two_pow_pos (2 ^ l)
    have hsplit : a = (a >>> 2 ^ l) <<< 2 ^ l ^^^ (a % 2 ^ 2 ^ l) := by
      apply Nat.eq_of_testBit_eq
      intro i
      rw [Nat.testBit_xor, Nat.testBit_shiftLeft, Nat.testBit_shiftRight, Nat.testBit_mod_two_pow]
      by_cases hi : 2 ^ l ≤ i
      · have h1 : 2 ^ l + (i - 2 ^ l) = i := by omega
        have h2 : ¬ i < 2 ^ l := by omega
        simp [hi, h1, h2]
      · have h2 : i < 2 ^ l := by omega
        simp [hi, h2]
    have l1 : a >>> 2 ^ l < 2 ^ 2 ^ l := by
      rw [Nat.shiftRight_eq_div_pow]
      apply Nat.div_lt_of_lt_mul
      rw [← Nat.pow_add, ← two_pow_succ_two]; exact h
    have l0 : a % 2 ^ 2 ^ l < 2 ^ 2 ^ l := Nat.mod_lt _ hpos
    generalize hA1 : a >>> 2 ^ l = a1 at *
    generalize hA0 : a % 2 ^ 2 ^ l = a0 at *
    have hc := conj_mul l a1 a0 l1 l0
    rw [← hsplit] at hc
    have hN : nm l a0 a0 ^^^ nm l a0 a1 ^^^ nm l (nm l a1 a1) (1 <<< (2 ^ l - 1)) ≠ 0 := by
      by_cases z1 : a1 = 0
      · subst z1
        rw [nm_zero_right, nm_zero_left, nm_zero_left, Nat.xor_zero, Nat.xor_zero]
        have p0 : 0 < a0 := by
          rcases Nat.eq_zero_or_pos a0 with e | e
          · rw [e, Nat.zero_shiftLeft, Nat.xor_self] at hsplit; omega
          · exact e
        obtain ⟨b, _, hb⟩ := ih a0 p0 l0
        intro e
        have : nm l (nm l a0 a0) (nm l b b) = 1 := by
          rw [nm_assoc, ← nm_assoc l a0 b b, hb, nm_comm, nm_assoc, nm_comm l b a0, hb, nm_one_left]
          apply Nat.mod_eq_of_lt
          have := Nat.pow_le_pow_right (show 0 < 2 by omega) (Nat.two_pow_pos l)
          omega
        rw [e, nm_zero_left] at this
        omega
      · obtain ⟨i, li, hi⟩ := ih a1 (by omega) l1
        intro e
        have k1 : nm l (nm l a0 a1) (nm l i i) = nm l a0 i := by
          rw [nm_assoc, ← nm_assoc l a1 i i, hi, nm_one_left, nm_mod_right]
        have k2 : nm l (nm l a0 a0) (nm l i i) = nm l (nm l a0 i) (nm l a0 i) := by
          have : Std.Commutative (nm l) := ⟨nm_comm l⟩
          have : Std.Associative (nm l) := ⟨nm_assoc l⟩
          ac_rfl
        have k3 : nm l (nm l (nm l a1 a1) (1 <<< (2 ^ l - 1))) (nm l i i) = 1 <<< (2 ^ l - 1) := by
          have : nm l (nm l (nm l a1 a1) (1 <<< (2 ^ l - 1))) (nm l i i) = nm l (nm l (nm l a1 i) (nm l a1 i)) (1 <<< (2 ^ l - 1)) := by
            have : Std.Commutative (nm l) := ⟨nm_comm l⟩
            have : Std.Associative (nm l) := ⟨nm_assoc l⟩
            ac_rfl
          rw [this, hi, nm_one_left, nm_mod_left, nm_one_left]
          apply Nat.mod_eq_of_lt
          rw [Nat.shiftLeft_eq, Nat.one_mul]
          exact Nat.pow_lt_pow_right (by omega) (by have := Nat.two_pow_pos l; omega)
        have e2 := congrArg (fun x => nm l x (nm l i i)) e
        simp only [nm_xor_left, nm_zero_left] at e2
        rw [k1, k2, k3] at e2
        exact no_root l (by omega) _ (nm_lt l a0 i) (xor_eq_zero e2)
    obtain ⟨m, lm, hm⟩ := ih _ (Nat.pos_of_ne_zero hN) (Nat.xor_lt_two_pow (Nat.xor_lt_two_pow (nm_lt _ _ _) (nm_lt _ _ _)) (nm_lt _ _ _))
    refine ⟨nm (l + 1) (a1 <<< 2 ^ l ^^^ (a0 ^^^ a1)) m, nm_lt _ _ _, ?_⟩
    rw [← nm_assoc, hc, nm_level _ _ _ (Nat.xor_lt_two_pow (Nat.xor_lt_two_pow (nm_lt _ _ _) (nm_lt _ _ _)) (nm_lt _ _ _)) lm, hm]

theorem nm4_inv {a : Nat} (h0 : 0 < a) (h : a < 65536) : ∃ b, b < 65536 ∧ nm 4 a b = 1 := inv_ex 4 (by omega) a h0 h

theorem nm4_ne_zero {a b : Nat} (ha : 0 < a) (ha2 : a < 65536) (hb : 0 < b) (hb2 : b < 65536) : 0 < nm 4 a b := by
  rcases Nat.eq_zero_or_pos (nm 4 a b) with e | e
  · obtain ⟨c, _, hc⟩ := nm4_inv ha ha2
    have : nm 4 c (nm 4 a b) = b := by rw [← nm_assoc, nm_comm 4 c a, hc, nm4_one_left hb2]
    rw [e, nm_zero_right] at this
    omega
  · exact e

theorem npow_pos {a : Nat} (h0 : 0 < a) (h : a < 65536) : ∀ n, 0 < npow a n := by
  intro n
  induction n with
  | zero => show 0 < 1; decide
  | succ n ih => exact nm4_ne_zero ih (npow_lt a n) h0 h

theorem cancel {a x y : Nat} (h0 : 0 < a) (h : a < 65536) (hx : x < 65536) (hy : y < 65536) (e : nm 4 x a = nm 4 y a) : x = y := by
  obtain ⟨c, _, hc⟩ := nm4_inv h0 h
  have e2 := congrArg (fun z => nm 4 z c) e
  simp only [nm_assoc, hc] at e2
  rwa [nm4_one_right hx, nm4_one_right hy] at e2

theorem npow_whole {a : Nat} (h0 : 0 < a) (h : a < 65536) : npow a 65535 = 1 := by
  have e : npow a 65536 = a := by
    have := sqn_npow h 16
    rw [sqn16 h] at this; exact this.symm
  refine cancel h0 h (npow_lt _ _) (by decide) ?_
  rw [nm4_one_left h]
  exact e

theorem npow_255 {a : Nat} (h0 : 0 < a) (h : a < 256) : npow a 255 = 1 := by
  have e : npow a 256 = a := by
    have := sqn_npow (a := a) (by omega) 8
    rw [sqn8 h] at this; exact this.symm
  refine cancel h0 (by omega) (npow_lt _ _) (by decide) ?_
  rw [nm4_one_left (by omega)]
  exact e

theorem npow_inv {a : Nat} (h0 : 0 < a) (h : a < 65536) : nm 4 (npow a 65534) a = 1 := npow_whole h0 h

end Go.Proofs.Ytabdpdnofljkcaa.NimF
