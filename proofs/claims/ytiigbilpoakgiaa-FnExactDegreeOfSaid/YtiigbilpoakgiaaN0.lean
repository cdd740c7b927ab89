/- Plain facts on the product of nimbers: it is commutative, associative, and distributes over sums. -/
namespace Go.Proofs.Ytiigbilpoakgiaa.NimF

/-- the product of nimbers on the low `2^l` bits of both -/
def nm : Nat → Nat → Nat → Nat
  | 0, a, b => (a &&& b) &&& 1
  | l + 1, a, b =>
    ((nm l (a >>> 2 ^ l) (b >>> 2 ^ l) ^^^ nm l (a >>> 2 ^ l) b ^^^ nm l a (b >>> 2 ^ l)) <<< 2 ^ l) ^^^
      (nm l a b ^^^ nm l (nm l (a >>> 2 ^ l) (b >>> 2 ^ l)) (1 <<< (2 ^ l - 1)))

theorem nm_succ (l a b : Nat) : nm (l + 1) a b =
    ((nm l (a >>> 2 ^ l) (b >>> 2 ^ l) ^^^ nm l (a >>> 2 ^ l) b ^^^ nm l a (b >>> 2 ^ l)) <<< 2 ^ l) ^^^
      (nm l a b ^^^ nm l (nm l (a >>> 2 ^ l) (b >>> 2 ^ l)) (1 <<< (2 ^ l - 1))) := rfl

theorem nm_comm (l : Nat) : ∀ a b, nm l a b = nm l b a := by
  induction l with
  | zero => intro a b; simp only [nm]; rw [Nat.and_comm a b]
  | succ l ih =>
    intro a b
    rw [nm_succ, nm_succ, ih b a, ih (b >>> 2 ^ l) (a >>> 2 ^ l), ih (b >>> 2 ^ l) a, ih b (a >>> 2 ^ l)]
    congr 2
    rw [Nat.xor_assoc, Nat.xor_assoc]; congr 1; exact Nat.xor_comm _ _

theorem nm_xor_left (l : Nat) : ∀ a b c, nm l (a ^^^ b) c = nm l a c ^^^ nm l b c := by
  induction l with
  | zero => intro a b c; simp only [nm]; rw [Nat.and_xor_distrib_right, Nat.and_xor_distrib_right]
  | succ l ih =>
    intro a b c
    simp only [nm_succ, Nat.shiftRight_xor_distrib, ih, Nat.shiftLeft_xor_distrib]
    ac_rfl

theorem nm_xor_right (l a b c : Nat) : nm l a (b ^^^ c) = nm l a b ^^^ nm l a c := by
  rw [nm_comm, nm_xor_left, nm_comm l b, nm_comm l c]

theorem nm_zero_left (l a : Nat) : nm l 0 a = 0 := by
  have h := nm_xor_left l 0 0 a
  rw [Nat.xor_self, Nat.xor_self] at h; exact h

theorem nm_zero_right (l a : Nat) : nm l a 0 = 0 := by rw [nm_comm, nm_zero_left]

theorem two_pow_succ_two (l : Nat) : 2 ^ (l + 1) = 2 ^ l + 2 ^ l := by rw [Nat.pow_succ]; omega

theorem nm_lt (l : Nat) : ∀ a b, nm l a b < 2 ^ 2 ^ l := by
  induction l with
  | zero => intro a b; simp only [nm]; exact Nat.and_lt_two_pow _ (by decide)
  | succ l ih =>
    intro a b
    rw [nm_succ, two_pow_succ_two]
    apply Nat.xor_lt_two_pow
    · rw [Nat.shiftLeft_eq, Nat.pow_add]
      exact Nat.mul_lt_mul_of_pos_right (Nat.xor_lt_two_pow (Nat.xor_lt_two_pow (ih _ _) (ih _ _)) (ih _ _)) (Nat.two_pow_pos _)
    · rw [Nat.pow_add]
      refine Nat.lt_of_lt_of_le (Nat.xor_lt_two_pow (ih _ _) (ih _ _)) (Nat.le_mul_of_pos_right _ (Nat.two_pow_pos _))

theorem testBit_shl (x i j : Nat) : (x <<< i).testBit j = (decide (i ≤ j) && x.testBit (j - i)) := by
  rw [Nat.testBit_shiftLeft]

/-- only the low bits count -/
theorem nm_mod_left (l : Nat) : ∀ a b, nm l (a % 2 ^ 2 ^ l) b = nm l a b := by
  induction l with
  | zero =>
    intro a b; simp only [nm]
    rw [Nat.and_assoc, Nat.and_assoc, Nat.and_comm b 1, ← Nat.and_assoc, ← Nat.and_assoc]
    congr 1
    rw [Nat.and_one_is_mod, Nat.and_one_is_mod]
    simp
  | succ l ih =>
    intro a b
    have e1 : ∀ c, nm l (a % 2 ^ 2 ^ (l + 1)) c = nm l a c := by
      intro c
      rw [← ih (a % 2 ^ 2 ^ (l + 1)) c, ← ih a c, two_pow_succ_two, Nat.pow_add, Nat.mod_mul_right_mod]
    have e2 : ∀ c, nm l ((a % 2 ^ 2 ^ (l + 1)) >>> 2 ^ l) c = nm l (a >>> 2 ^ l) c := by
      intro c
      rw [← ih (_ >>> _) c, ← ih (a >>> _) c]
      congr 1
      apply Nat.eq_of_testBit_eq
      intro i
      simp only [Nat.testBit_mod_two_pow, Nat.testBit_shiftRight, two_pow_succ_two]
      by_cases h : i < 2 ^ l
      · have : 2 ^ l + i < 2 ^ l + 2 ^ l := by omega
        simp [h]
      · simp [h]
    rw [nm_succ, nm_succ, e2, e2, e1, e1]

theorem nm_mod_right (l a b : Nat) : nm l a (b % 2 ^ 2 ^ l) = nm l a b := by
  rw [nm_comm, nm_mod_left, nm_comm]

theorem nm_shl_left (l x b : Nat) : nm l (x <<< 2 ^ l) b = 0 := by
  rw [← nm_mod_left, Nat.shiftLeft_eq, Nat.mul_mod_left, nm_zero_left]

/-- the lower half of a product -/
theorem nm_low (l a b c : Nat) : nm l (nm (l + 1) a b) c = nm l (nm l a b) c ^^^ nm l (nm l (nm l (a >>> 2 ^ l) (b >>> 2 ^ l)) (1 <<< (2 ^ l - 1))) c := by
  rw [nm_succ, nm_xor_left, nm_shl_left, Nat.zero_xor, nm_xor_left]

/-- the upper half of a product -/
theorem nm_high (l a b : Nat) : nm (l + 1) a b >>> 2 ^ l = nm l (a >>> 2 ^ l) (b >>> 2 ^ l) ^^^ nm l (a >>> 2 ^ l) b ^^^ nm l a (b >>> 2 ^ l) := by
  rw [nm_succ, Nat.shiftRight_xor_distrib, Nat.shiftLeft_shiftRight, Nat.shiftRight_eq_zero (_ ^^^ nm l (nm l _ _) _) _ (Nat.xor_lt_two_pow (nm_lt _ _ _) (nm_lt _ _ _)), Nat.xor_zero]

theorem nm_assoc (l : Nat) : ∀ a b c, nm l (nm l a b) c = nm l a (nm l b c) := by
  induction l with
  | zero => intro a b c; simp only [nm]; ac_rfl
  | succ l ih =>
    intro a b c
    rw [nm_comm (l + 1) a (nm (l + 1) b c)]
    rw [nm_succ l (nm (l + 1) a b) c, nm_succ l (nm (l + 1) b c) a]
    simp only [nm_low, nm_high, nm_xor_left]
    generalize a >>> 2 ^ l = a1
    generalize b >>> 2 ^ l = b1
    generalize c >>> 2 ^ l = c1
    generalize 1 <<< (2 ^ l - 1) = d
    have : Std.Commutative (nm l) := ⟨nm_comm l⟩
    have : Std.Associative (nm l) := ⟨ih⟩
    ac_rfl

theorem nm_one_left (l : Nat) : ∀ a, nm l 1 a = a % 2 ^ 2 ^ l := by
  induction l with
  | zero =>
    intro a; simp only [nm]
    rw [Nat.and_comm 1 a, Nat.and_assoc, Nat.and_self, Nat.and_one_is_mod]
  | succ l ih =>
    intro a
    have e : 1 >>> 2 ^ l = 0 := Nat.shiftRight_eq_zero _ _ (by
      have := Nat.pow_le_pow_right (show 0 < 2 by omega) (Nat.two_pow_pos l)
      omega)
    rw [nm_succ, e, nm_zero_left, nm_zero_left, nm_zero_left, ih, ih, Nat.zero_xor, Nat.zero_xor, Nat.xor_zero]
    apply Nat.eq_of_testBit_eq
    intro i
    simp only [Nat.testBit_xor, Nat.testBit_shiftLeft, Nat.testBit_mod_two_pow, Nat.testBit_shiftRight, two_pow_succ_two]
    by_cases h : i < 2 ^ l
    · have h1 : ¬ 2 ^ l ≤ i := by omega
      have h2 : i < 2 ^ l + 2 ^ l := by omega
      simp [h, h1, h2]
    · have h1 : 2 ^ l ≤ i := by omega
      by_cases h2 : i < 2 ^ l + 2 ^ l
      · have h3 : i - 2 ^ l < 2 ^ l := by omega
        have h4 : 2 ^ l + (i - 2 ^ l) = i := by omega
        simp [h, h1, h2, h3, h4]
      · have h3 : ¬ i - 2 ^ l < 2 ^ l := by omega
        simp [h, h2, h3]

/-- lesser levels -/
theorem nm_level (l a b : Nat) (ha : a < 2 ^ 2 ^ l) (hb : b < 2 ^ 2 ^ l) : nm (l + 1) a b = nm l a b := by
  rw [nm_succ, Nat.shiftRight_eq_zero _ _ ha, Nat.shiftRight_eq_zero _ _ hb, nm_zero_left, nm_zero_left, nm_zero_left, nm_zero_right]
  simp

/-- one product for three -/
theorem nm_karatsuba (l a1 a0 b1 b0 : Nat) :
    nm l (a0 ^^^ a1) (b0 ^^^ b1) ^^^ nm l a0 b0 = nm l a1 b1 ^^^ nm l a1 b0 ^^^ nm l a0 b1 := by
  rw [nm_xor_left, nm_xor_right, nm_xor_right]
  generalize nm l a0 b0 = x
  generalize nm l a0 b1 = y
  generalize nm l a1 b0 = z
  generalize nm l a1 b1 = t
  have : x ^^^ y ^^^ (z ^^^ t) ^^^ x = x ^^^ x ^^^ (t ^^^ z ^^^ y) := by ac_rfl
  rw [this, Nat.xor_self, Nat.zero_xor]

/-- the product with the highest bit of a level -/
theorem nm_half (l x : Nat) : nm (l + 1) x (1 <<< (2 ^ (l + 1) - 1)) =
    ((nm l (x >>> 2 ^ l) (1 <<< (2 ^ l - 1)) ^^^ nm l x (1 <<< (2 ^ l - 1))) <<< 2 ^ l) ^^^ nm l (nm l (x >>> 2 ^ l) (1 <<< (2 ^ l - 1))) (1 <<< (2 ^ l - 1)) := by
  have hp := Nat.two_pow_pos l
  have e1 : 1 <<< (2 ^ (l + 1) - 1) >>> 2 ^ l = 1 <<< (2 ^ l - 1) := by
    rw [two_pow_succ_two, show 2 ^ l + 2 ^ l - 1 = (2 ^ l - 1) + 2 ^ l by omega, Nat.shiftLeft_add, Nat.shiftLeft_shiftRight]
  have e2 : ∀ c, nm l c (1 <<< (2 ^ (l + 1) - 1)) = 0 := by
    intro c
    rw [nm_comm, two_pow_succ_two, show 2 ^ l + 2 ^ l - 1 = (2 ^ l - 1) + 2 ^ l by omega, Nat.shiftLeft_add, nm_shl_left]
  rw [nm_succ, e1, e2, e2, Nat.xor_zero, Nat.zero_xor]

end Go.Proofs.Ytiigbilpoakgiaa.NimF
