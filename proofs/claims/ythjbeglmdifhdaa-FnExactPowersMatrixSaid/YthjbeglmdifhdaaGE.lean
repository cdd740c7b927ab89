/- What the program's product of nimbers comes to: the plain product. -/
import Derived.Test.YthjbeglmdifhdaaRTimesx1
import Derived.Test.YthjbeglmdifhdaaN1
namespace Go.Proofs.Ythjbeglmdifhdaa.TimesEv
open Go.RowKit Go.Proofs.YthjbeglmdifhdaaW.PrintWords Go.Proofs.YthjbeglmdifhdaaW.PrintLast Go.Proofs.YthjbeglmdifhdaaW.PrintMore Go.Proofs.Ythjbeglmdifhdaa.NimF Go.Proofs.Ythjbeglmdifhdaa.NimGo Go.Proofs.Ythjbeglmdifhdaa.RTimes
theorem half_ev : ∀ l, l ≤ 4 → ∀ x : Nat, x < 2 ^ 2 ^ l → Ev (fun k => impl_half.f k (x : Int) ((2 ^ l : Nat) : Int)) ((nm l x (1 <<< (2 ^ l - 1)) : Nat) : Int) := by
  intro l
  induction l with
  | zero =>
    intro _ x hx
    have hx2 : x < 2 := hx
    have hv : nm 0 x (1 <<< (2 ^ 0 - 1)) = x := by
      have : x = 0 ∨ x = 1 := by omega
      rcases this with rfl | rfl <;> rfl
    rw [hv]
    refine Ev.step (f := fun k => impl_half.j0 k x 1 true) (fun k => ?_) (Ev.step (f := fun _ => some (x : Int)) (fun k => ?_) (Ev.now _))
    · simp only [impl_half.f]; rw [if_pos (by rfl)]; rfl
    · simp only [impl_half.j0]; rw [if_pos trivial]
  | succ l ih =>
    intro hl x hx
    have hl3 : l ≤ 3 := by omega
    have hp := pow_le_8 hl3
    have hp0 := Nat.two_pow_pos l
    have hb : ¬ (((2 ^ (l + 1) : Nat) : Int) = 1) := by rw [two_pow_succ_two]; omega
    have hx16 : x < 65536 := Nat.lt_of_lt_of_le hx (pow_pow_le hl)
    refine Ev.step (f := fun k => impl_half.j0 k x ((2 ^ (l + 1) : Nat) : Int) ((x : Int) == 0)) (fun k => by simp only [impl_half.f]; rw [if_neg hb]) ?_
    by_cases h0 : x = 0
    · subst h0
      rw [nm_zero_left]
      refine Ev.step (f := fun _ => some (0 : Int)) (fun k => ?_) (Ev.now _)
      simp only [impl_half.j0]; rfl
    · have hd : ((x : Int) == 0) = false := by simp; omega
      rw [hd]
      have hlow := low_eq (x := x) hl3 hx16
      have hhi := shr32 (a := x) (s := 2 ^ l) (by omega)
      have hmod : x % 2 ^ 2 ^ l < 2 ^ 2 ^ l := Nat.mod_lt _ (Nat.two_pow_pos _)
      have e1 := ih (by omega) (x >>> 2 ^ l) (shr_pow_lt hx)
      have e2 := ih (by omega) (nm l (x >>> 2 ^ l) (1 <<< (2 ^ l - 1))) (nm_lt _ _ _)
      have e3 := ih (by omega) (x % 2 ^ 2 ^ l) hmod
      rw [nm_mod_left] at e3
      have hpp := pow_pow_le (l := l) (by omega)
      have b1 := nm_lt l (x >>> 2 ^ l) (1 <<< (2 ^ l - 1))
      have b2 := nm_lt l (nm l (x >>> 2 ^ l) (1 <<< (2 ^ l - 1))) (1 <<< (2 ^ l - 1))
      have b3 := nm_lt l x (1 <<< (2 ^ l - 1))
      refine Ev.step (f := fun k => (impl_half.f k ((x >>> 2 ^ l : Nat) : Int) ((2 ^ l : Nat) : Int)).bind fun t1 => (impl_half.f k t1 ((2 ^ l : Nat) : Int)).bind fun t2 => (impl_half.f k ((x % 2 ^ 2 ^ l : Nat) : Int) ((2 ^ l : Nat) : Int)).bind fun t3 =>
        some (Go.bits .or .u32 t2 (shl .u32 (Go.bits .xor .u32 t1 t3) ((2 ^ l : Nat) : Int)))) (fun k => ?_) ?_
      · simp only [impl_half.j0]
        rw [halved hl3, hlow, hhi, if_neg (by decide), if_pos (by omega)]
      · refine Ev.bind e1 (Ev.bind e2 (Ev.bind e3 ?_))
        rw [xor32 (by omega) (by omega), shl32 (by omega) (Nat.lt_of_lt_of_le (Nat.xor_lt_two_pow b1 b3) hpp), or32 (by omega) ?_, or_shl b2, nm_half]
        · exact Ev.now _
        · have hpl := pow_pow_le hl
          refine Nat.lt_of_lt_of_le ?_ hpl
          rw [two_pow_succ_two, Nat.pow_add, Nat.shiftLeft_eq]
          exact Nat.mul_lt_mul_of_pos_right (Nat.xor_lt_two_pow b1 b3) (Nat.two_pow_pos _)


theorem product_ev : ∀ l, l ≤ 4 → ∀ x y : Nat, x < 2 ^ 2 ^ l → y < 2 ^ 2 ^ l → Ev (fun k => impl_product.f k (x : Int) (y : Int) ((2 ^ l : Nat) : Int)) ((nm l x y : Nat) : Int) := by
  have hz : ∀ (l x y : Nat), (x = 0 ∨ y = 0) → Ev (fun k => impl_product.f k (x : Int) (y : Int) ((2 ^ l : Nat) : Int)) ((nm l x y : Nat) : Int) := by
    intro l x y h
    have hv : nm l x y = 0 := by rcases h with rfl | rfl <;> simp [nm_zero_left, nm_zero_right]
    rw [hv]
    refine Ev.step (f := fun k => impl_product.j0 k x y ((2 ^ l : Nat) : Int) true) (fun k => ?_) (Ev.step (f := fun _ => some 0) (fun k => ?_) (Ev.now _))
    · simp only [impl_product.f]
      by_cases h0 : x = 0
      · rw [if_pos (by omega)]
      · have : y = 0 := by omega
        rw [if_neg (by omega), this]; rfl
    · simp only [impl_product.j0]; rw [if_pos trivial]
  have hj : ∀ (l x y : Nat) (v : Int), x ≠ 0 → y ≠ 0 → Ev (fun k => impl_product.j0 k (x : Int) (y : Int) ((2 ^ l : Nat) : Int) false) v → Ev (fun k => impl_product.f k (x : Int) (y : Int) ((2 ^ l : Nat) : Int)) v := by
    intro l x y v h1 h2 h
    refine Ev.step (f := fun k => impl_product.j0 k x y ((2 ^ l : Nat) : Int) false) (fun k => ?_) h
    have hd : ((y : Int) == 0) = false := by simp; omega
    simp only [impl_product.f]; rw [if_neg (by omega), hd]
  have h1 : ∀ (l x y : Nat), x = 1 → y ≠ 0 → y < 2 ^ 2 ^ l → Ev (fun k => impl_product.f k (x : Int) (y : Int) ((2 ^ l : Nat) : Int)) ((nm l x y : Nat) : Int) := by
    intro l x y hx hy hlt
    refine hj l x y _ (by omega) hy ?_
    subst hx
    rw [nm_one_left, Nat.mod_eq_of_lt hlt]
    refine Ev.step (f := fun _ => some (y : Int)) (fun k => ?_) (Ev.now _)
    simp only [impl_product.j0]; rw [if_neg (by decide), if_pos (by rfl)]
  have h2 : ∀ (l x y : Nat), x ≠ 0 → y = 1 → x < 2 ^ 2 ^ l → Ev (fun k => impl_product.f k (x : Int) (y : Int) ((2 ^ l : Nat) : Int)) ((nm l x y : Nat) : Int) := by
    intro l x y hx hy hlt
    by_cases hx1 : x = 1
    · exact h1 l x y hx1 (by omega) (by rw [hy, ← hx1]; exact hlt)
    refine hj l x y _ hx (by omega) ?_
    subst hy
    rw [nm_one_right, Nat.mod_eq_of_lt hlt]
    refine Ev.step (f := fun _ => some (x : Int)) (fun k => ?_) (Ev.now _)
    simp only [impl_product.j0]; rw [if_neg (by decide), if_neg (by omega), if_pos (by rfl)]
  intro l
  induction l with
  | zero =>
    intro _ x y hx hy
    have hx2 : x < 2 := hx
    have hy2 : y < 2 := hy
    by_cases h0 : x = 0 ∨ y = 0
    · exact hz 0 x y h0
    · exact h1 0 x y (by omega) (by omega) hy
  | succ l ih =>
    intro hl x y hx hy
    by_cases h0 : x = 0 ∨ y = 0
    · exact hz _ x y h0
    by_cases hx1 : x = 1
    · exact h1 _ x y hx1 (by omega) hy
    by_cases hy1 : y = 1
    · exact h2 _ x y (by omega) hy1 hx
    have hl3 : l ≤ 3 := by omega
    have hp := pow_le_8 hl3
    have hp0 : (0 : Int) ≤ ((2 ^ l : Nat) : Int) := Int.natCast_nonneg _
    have hx16 : x < 65536 := Nat.lt_of_lt_of_le hx (pow_pow_le hl)
    have hy16 : y < 65536 := Nat.lt_of_lt_of_le hy (pow_pow_le hl)
    have hpp := pow_pow_le (l := l) (by omega)
    have hlx := low_eq (x := x) hl3 hx16
    have hly := low_eq (x := y) hl3 hy16
    have hhx := shr32 (a := x) (s := 2 ^ l) (by omega)
    have hhy := shr32 (a := y) (s := 2 ^ l) (by omega)
    have bx := shr_pow_lt hx
    have bby := shr_pow_lt hy
    have mx : x % 2 ^ 2 ^ l < 2 ^ 2 ^ l := Nat.mod_lt _ (Nat.two_pow_pos _)
    have my : y % 2 ^ 2 ^ l < 2 ^ 2 ^ l := Nat.mod_lt _ (Nat.two_pow_pos _)
    have e0 := ih (by omega) (x % 2 ^ 2 ^ l) (y % 2 ^ 2 ^ l) mx my
    rw [nm_mod_left, nm_mod_right] at e0
    refine hj _ x y _ (by omega) (by omega) ?_
    -- the way by both halves
    have both : Ev (fun k => impl_product.j1 k ((2 ^ l : Nat) : Int) ((x % 2 ^ 2 ^ l : Nat) : Int) ((x >>> 2 ^ l : Nat) : Int) ((y % 2 ^ 2 ^ l : Nat) : Int) ((y >>> 2 ^ l : Nat) : Int) false) ((nm (l + 1) x y : Nat) : Int) := by
      have e1 := ih (by omega) (x >>> 2 ^ l) (y >>> 2 ^ l) bx bby
      have e2 := ih (by omega) ((x % 2 ^ 2 ^ l) ^^^ (x >>> 2 ^ l)) ((y % 2 ^ 2 ^ l) ^^^ (y >>> 2 ^ l)) (Nat.xor_lt_two_pow mx bx) (Nat.xor_lt_two_pow my bby)
      have e3 := half_ev l (by omega) (nm l (x >>> 2 ^ l) (y >>> 2 ^ l)) (nm_lt _ _ _)
      refine Ev.step (f := fun k => (impl_product.f k ((x >>> 2 ^ l : Nat) : Int) ((y >>> 2 ^ l : Nat) : Int) ((2 ^ l : Nat) : Int)).bind fun t1 => (impl_product.f k ((x % 2 ^ 2 ^ l : Nat) : Int) ((y % 2 ^ 2 ^ l : Nat) : Int) ((2 ^ l : Nat) : Int)).bind fun t2 =>
        (impl_product.f k (((x % 2 ^ 2 ^ l) ^^^ (x >>> 2 ^ l) : Nat) : Int) (((y % 2 ^ 2 ^ l) ^^^ (y >>> 2 ^ l) : Nat) : Int) ((2 ^ l : Nat) : Int)).bind fun t3 =>
        (impl_half.f k t1 ((2 ^ l : Nat) : Int)).bind fun t4 => some (Go.bits .xor .u32 (Go.bits .or .u32 (shl .u32 (Go.bits .xor .u32 t3 t2) ((2 ^ l : Nat) : Int)) t2) t4)) (fun k => ?_) ?_
      · simp only [impl_product.j1]
        rw [if_neg (by decide), xor32 (by omega) (by omega), xor32 (by omega) (by omega)]
        simp only [hp0, if_true]
      · refine Ev.bind e1 (Ev.bind e0 (Ev.bind e2 (Ev.bind e3 ?_)))
        have c1 := nm_lt l (x >>> 2 ^ l) (y >>> 2 ^ l)
        have c2 := nm_lt l x y
        have c3 := nm_lt l ((x % 2 ^ 2 ^ l) ^^^ (x >>> 2 ^ l)) ((y % 2 ^ 2 ^ l) ^^^ (y >>> 2 ^ l))
        have c4 := nm_lt l (nm l (x >>> 2 ^ l) (y >>> 2 ^ l)) (1 <<< (2 ^ l - 1))
        have c5 := Nat.xor_lt_two_pow c3 c2
        have hpl := pow_pow_le hl
        have c6 : (nm l ((x % 2 ^ 2 ^ l) ^^^ (x >>> 2 ^ l)) ((y % 2 ^ 2 ^ l) ^^^ (y >>> 2 ^ l)) ^^^ nm l x y) <<< 2 ^ l < 65536 := by
          refine Nat.lt_of_lt_of_le ?_ hpl
          rw [two_pow_succ_two, Nat.pow_add, Nat.shiftLeft_eq]
          exact Nat.mul_lt_mul_of_pos_right c5 (Nat.two_pow_pos _)
        rw [xor32 (by omega) (by omega), shl32 (by omega) (by omega), or32 c6 (by omega), xor32 (Nat.or_lt_two_pow (n := 16) c6 (by omega)) (by omega)]
        rw [Nat.or_comm, or_shl c2, nm_succ]
        have hk := nm_karatsuba l (x >>> 2 ^ l) (x % 2 ^ 2 ^ l) (y >>> 2 ^ l) (y % 2 ^ 2 ^ l)
        rw [nm_mod_left, nm_mod_right, nm_mod_right, nm_mod_left] at hk
        rw [hk, Nat.xor_assoc]
        exact Ev.now _
    have hdx : ∀ b : Bool, ((((x >>> 2 ^ l : Nat) : Int) = 0) ↔ x >>> 2 ^ l = 0) := by intro _; omega
    by_cases hsx : x >>> 2 ^ l = 0
    · by_cases hsy : y >>> 2 ^ l = 0
      · refine Ev.step (f := fun k => impl_product.j1 k ((2 ^ l : Nat) : Int) ((x % 2 ^ 2 ^ l : Nat) : Int) ((x >>> 2 ^ l : Nat) : Int) ((y % 2 ^ 2 ^ l : Nat) : Int) ((y >>> 2 ^ l : Nat) : Int) true) (fun k => ?_) ?_
        · simp only [impl_product.j0]
          rw [if_neg (by decide), if_neg (by omega), if_neg (by omega), halved hl3, hlx, hly, hhx, hhy, if_pos hp0, if_pos (by omega)]
          congr 1; simp [hsy]
        · refine Ev.step (f := fun k => (impl_product.f k ((x % 2 ^ 2 ^ l : Nat) : Int) ((y % 2 ^ 2 ^ l : Nat) : Int) ((2 ^ l : Nat) : Int)).bind fun t => some t) (fun k => by simp only [impl_product.j1]; rw [if_pos trivial]) ?_
          refine Ev.bind e0 ?_
          have : nm (l + 1) x y = nm l x y := by
            rw [nm_succ, hsx, hsy, nm_zero_left, nm_zero_left, nm_zero_right, nm_zero_left]; simp
          rw [this]; exact Ev.now _
      · refine Ev.step (f := fun k => impl_product.j1 k ((2 ^ l : Nat) : Int) ((x % 2 ^ 2 ^ l : Nat) : Int) ((x >>> 2 ^ l : Nat) : Int) ((y % 2 ^ 2 ^ l : Nat) : Int) ((y >>> 2 ^ l : Nat) : Int) false) (fun k => ?_) both
        simp only [impl_product.j0]
        rw [if_neg (by decide), if_neg (by omega), if_neg (by omega), halved hl3, hlx, hly, hhx, hhy, if_pos hp0, if_pos (by omega)]
        rw [show (((y >>> 2 ^ l : Nat) : Int) == 0) = false from beq_eq_false_iff_ne.mpr (by omega)]
    · refine Ev.step (f := fun k => impl_product.j1 k ((2 ^ l : Nat) : Int) ((x % 2 ^ 2 ^ l : Nat) : Int) ((x >>> 2 ^ l : Nat) : Int) ((y % 2 ^ 2 ^ l : Nat) : Int) ((y >>> 2 ^ l : Nat) : Int) false) (fun k => ?_) both
      simp only [impl_product.j0]
      rw [if_neg (by decide), if_neg (by omega), if_neg (by omega), halved hl3, hlx, hly, hhx, hhy, if_pos hp0, if_neg (by omega)]

/-- the product of all 16 bits -/
theorem times_ev {a b : Nat} (ha : a < 65536) (hb : b < 65536) : Ev (fun k => impl_times.f k (a : Int) (b : Int)) ((nm 4 a b : Nat) : Int) := by
  have e := product_ev 4 (by omega) a b ha hb
  have h1 : (a : Int) % 4294967296 = a := by omega
  have h2 : (b : Int) % 4294967296 = b := by omega
  refine Ev.congr (f := fun k => (impl_product.f k (a : Int) (b : Int) 16).bind fun t => some (IntKind.u16.wrap t)) (fun k => by simp only [impl_times.f]; rw [h1, h2]) ?_
  refine Ev.bind e ?_
  have hlt : nm 4 a b < 65536 := nm_lt 4 a b
  rw [wraps_u16 _ (by omega) (by omega)]
  exact Ev.now _

end Go.Proofs.Ythjbeglmdifhdaa.TimesEv
