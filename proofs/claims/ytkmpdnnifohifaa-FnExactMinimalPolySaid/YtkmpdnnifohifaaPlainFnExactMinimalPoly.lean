/- The law FnExactMinimalPoly returns true for all arguments, as a statement on numbers and lists alone. -/
import Derived.Test.YtkmpdnnifohifaaRFnExactMinimalPolyx4
import Derived.Test.YtkmpdnnifohifaaN1
namespace Go.Proofs.Ytkmpdnnifohifaa.Pure
open Go.RowKit Go.Proofs.Ytkmpdnnifohifaa.RFnExactMinimalPoly Go.Proofs.YtkmpdnnifohifaaW.PrintWords Go.Proofs.YtkmpdnnifohifaaW.PrintLast Go.Proofs.YtkmpdnnifohifaaW.PrintMore Go.Proofs.Ytkmpdnnifohifaa.NimF Go.Proofs.Ytkmpdnnifohifaa.NimGo Go.Proofs.Ytkmpdnnifohifaa.Given
theorem st {a b : Nat} (ha : a < 65536) (hb : b < 65536) : spec_l01Times.f (a : Int) (b : Int) = some ((nm 4 a b : Nat) : Int) := nimTimes_nat ha hb

theorem it {a b : Nat} (ha : a < 65536) (hb : b < 65536) : impl_times.f (a : Int) (b : Int) = some ((nm 4 a b : Nat) : Int) := nimTimes_nat ha hb

theorem eqPoly_ev (l : List Int) (h : l.length ≤ 1048576) : ∃ K, ∀ k, K ≤ k → laws_eqPoly.f k l l = some true :=
  eq_refl_ev (fun _ _ _ => rfl) (fun _ _ _ _ => rfl) l (by omega)

theorem markPoly_ev (l : List Int) (c : Int) (h0 : 0 ≤ c) (h : c + (l.length : Int) ≤ 4611686018427387900) : ∃ K, ∀ k, K ≤ k → laws_markPoly.f k l c = some (c + (l.length : Int), marks .u16 c l.length) :=
  mark_ev (fun _ _ _ => rfl) (fun _ _ _ _ => rfl) l c h0 h
theorem heldPoly_ev (n : Nat) (c : Int) (h0 : 0 ≤ c) (h : c + (n : Int) ≤ 4611686018427387900) : ∃ K, ∀ k, K ≤ k → laws_heldPoly.f k (marks .u16 c n) c = some (c + (n : Int)) :=
  held_ev (fun _ _ _ => rfl) (fun _ _ _ _ => rfl) n c h0 h

theorem itrim (l : List Int) (hl : l.length ≤ 2097152) : impl_trim.f l = some (trimL l) := by
  unfold impl_trim.f cloneL
  rw [if_pos (by rw [trimL_length]; have := trimN_le l l.length; omega)]

/-! products of lists of numbers, as both texts make them -/
/-- a list of natural numbers as one of whole numbers -/
def nl (X : List Nat) : List Int := X.map fun (n : Nat) => (n : Int)
theorem nl_length (X : List Nat) : (nl X).length = X.length := by simp [nl]
theorem nl_getD (X : List Nat) (i : Nat) : (nl X).getD i 0 = ((X.getD i 0 : Nat) : Int) := by
  simp only [nl, List.getD_eq_getElem?_getD, List.getElem?_map]
  cases X[i]? <;> simp
theorem nl_set (X : List Nat) (i v : Nat) : (nl X).set i (v : Int) = nl (X.set i v) := by simp [nl, List.map_set]
theorem nl_replicate (n : Nat) : List.replicate n (0 : Int) = nl (List.replicate n 0) := by simp [nl]
theorem nl_of {l : List Int} (h : ∀ x ∈ l, (Lit.int .u16 x).wf = true) : ∃ X : List Nat, l = nl X ∧ ∀ x ∈ X, x < 65536 := by
  induction l with
  | nil => exact ⟨[], rfl, by simp⟩
  | cons x l ih =>
    obtain ⟨X, e, hX⟩ := ih (fun y hy => h y (List.mem_cons_of_mem _ hy))
    obtain ⟨n, rfl, ln⟩ := wf_u16 (h x List.mem_cons_self)
    exact ⟨n :: X, by rw [e]; rfl, fun y hy => by
      rcases List.mem_cons.1 hy with rfl | hy
      · exact ln
      · exact hX y hy⟩
def small (X : List Nat) : Prop := ∀ x ∈ X, x < 65536
theorem small_getD {X : List Nat} (h : small X) (i : Nat) : X.getD i 0 < 65536 := by
  rw [List.getD_eq_getElem?_getD]
  cases e : X[i]? with
  | none => simp
  | some v => exact h v (List.mem_of_getElem? e)
theorem small_set {X : List Nat} (h : small X) (i : Nat) {v : Nat} (hv : v < 65536) : small (X.set i v) := by
  intro x hx
  rcases List.mem_or_eq_of_mem_set hx with h1 | h1
  · exact h x h1
  · rw [h1]; exact hv
theorem small_zeros (n : Nat) : small (List.replicate n 0) := by
  intro x hx
  rw [List.eq_of_mem_replicate hx]; omega
/-- one number times a list, added from a place on -/
def row (v : Nat) : List Nat → Nat → List Nat → List Nat
  | [], _, X => X
  | y :: ys, i, X => row v ys (i + 1) (X.set i (X.getD i 0 ^^^ nm 4 v y))
def mulr (ys : List Nat) : List Nat → Nat → List Nat → List Nat
  | [], _, X => X
  | p :: ps, i, X => mulr ys ps (i + 1) (row p ys i X)
def mulP (p q : List Nat) : List Nat := mulr q p 0 (List.replicate (p.length + q.length - 1) 0)
theorem row_length (v : Nat) : ∀ (ys : List Nat) (i : Nat) (X : List Nat), (row v ys i X).length = X.length := by
  intro ys
  induction ys with
  | nil => intro i X; rfl
  | cons y ys ih => intro i X; show (row v ys _ _).length = _; rw [ih, List.length_set]
theorem row_small (v : Nat) : ∀ (ys : List Nat) (i : Nat) (X : List Nat), small X → small (row v ys i X) := by
  intro ys
  induction ys with
  | nil => intro i X h; exact h
  | cons y ys ih => intro i X h; exact ih _ _ (small_set h _ (Nat.xor_lt_two_pow (n := 16) (small_getD h i) (nm4_lt v y)))
theorem mulr_length (ys : List Nat) : ∀ (ps : List Nat) (i : Nat) (X : List Nat), (mulr ys ps i X).length = X.length := by
  intro ps
  induction ps with
  | nil => intro i X; rfl
  | cons p ps ih => intro i X; show (mulr ys ps _ _).length = _; rw [ih, row_length]
theorem mulr_small (ys : List Nat) : ∀ (ps : List Nat) (i : Nat) (X : List Nat), small X → small (mulr ys ps i X) := by
  intro ps
  induction ps with
  | nil => intro i X h; exact h
  | cons p ps ih => intro i X h; exact ih _ _ (row_small p ys i X h)
theorem mulP_length (p q : List Nat) : (mulP p q).length = p.length + q.length - 1 := by unfold mulP; rw [mulr_length, List.length_replicate]
theorem mulP_small (p q : List Nat) : small (mulP p q) := mulr_small q p 0 _ (small_zeros _)
theorem getD_set_self {X : List Nat} {i v : Nat} (h : i < X.length) : (X.set i v).getD i 0 = v := by simp [List.getD, h]
theorem getD_set_ne {X : List Nat} {i j v : Nat} (h : i ≠ j) : (X.set i v).getD j 0 = X.getD j 0 := by simp [List.getD, h]
theorem row_beyond (v : Nat) : ∀ (ys : List Nat) (i t : Nat) (X : List Nat), (t < i ∨ i + ys.length ≤ t) → (row v ys i X).getD t 0 = X.getD t 0 := by
  intro ys
  induction ys with
  | nil => intro i t X _; rfl
  | cons y ys ih =>
    intro i t X h
    rw [List.length_cons] at h
    show (row v ys (i + 1) _).getD t 0 = _
    rw [ih (i + 1) t _ (by omega), getD_set_ne (by omega)]
theorem row_last (v : Nat) : ∀ (ys : List Nat) (i : Nat) (X : List Nat), ys ≠ [] → i + ys.length ≤ X.length → (row v ys i X).getD (i + ys.length - 1) 0 = X.getD (i + ys.length - 1) 0 ^^^ nm 4 v (ys.getD (ys.length - 1) 0) := by
  intro ys
  induction ys with
  | nil => intro i X h; exact absurd rfl h
  | cons y ys ih =>
    intro i X _ hl
    rw [List.length_cons] at hl ⊢
    show (row v ys (i + 1) _).getD _ 0 = _
    by_cases he : ys = []
    · subst he
      simp only [List.length_nil, Nat.add_sub_cancel, Nat.zero_add, row]
      rw [getD_set_self (by simp only [List.length_nil] at hl; omega)]
      rfl
    · have hpos : 0 < ys.length := List.length_pos_iff.2 he
      have e := ih (i + 1) (X.set i (X.getD i 0 ^^^ nm 4 v y)) he (by rw [List.length_set]; omega)
      rw [show i + (ys.length + 1) - 1 = i + 1 + ys.length - 1 by omega, e, getD_set_ne (by omega)]
      congr 2
      rw [show ys.length + 1 - 1 = ys.length - 1 + 1 by omega]
      rfl
theorem mulr_last (ys : List Nat) (hy : ys ≠ []) : ∀ (ps : List Nat) (i : Nat) (X : List Nat), ps ≠ [] → i + ps.length + ys.length ≤ X.length + 1 →
    (mulr ys ps i X).getD (i + ps.length + ys.length - 2) 0 = X.getD (i + ps.length + ys.length - 2) 0 ^^^ nm 4 (ps.getD (ps.length - 1) 0) (ys.getD (ys.length - 1) 0) := by
  intro ps
  have hpos : 0 < ys.length := List.length_pos_iff.2 hy
  induction ps with
  | nil => intro i X h; exact absurd rfl h
  | cons p ps ih =>
    intro i X _ hl
    rw [List.length_cons] at hl ⊢
    show (mulr ys ps (i + 1) (row p ys i X)).getD _ 0 = _
    by_cases he : ps = []
    · subst he
      simp only [List.length_nil] at hl ⊢
      show (row p ys i X).getD _ 0 = _
      rw [show i + (0 + 1) + ys.length - 2 = i + ys.length - 1 by omega, row_last p ys i X hy (by omega)]
      rfl
    · have hp2 : 0 < ps.length := List.length_pos_iff.2 he
      have e := ih (i + 1) (row p ys i X) he (by rw [row_length]; omega)
      rw [show i + (ps.length + 1) + ys.length - 2 = i + 1 + ps.length + ys.length - 2 by omega, e, row_beyond p ys i _ X (by omega)]
      congr 2
      rw [show ps.length + 1 - 1 = ps.length - 1 + 1 by omega]
      rfl
/-- the last number of a product -/
theorem mulP_last (p q : List Nat) (hp : p ≠ []) (hq : q ≠ []) : (mulP p q).getD (p.length + q.length - 2) 0 = nm 4 (p.getD (p.length - 1) 0) (q.getD (q.length - 1) 0) := by
  have h1 : 0 < p.length := List.length_pos_iff.2 hp
  have h2 : 0 < q.length := List.length_pos_iff.2 hq
  have e := mulr_last q hq p 0 (List.replicate (p.length + q.length - 1) 0) hp (by rw [List.length_replicate]; omega)
  rw [Nat.zero_add] at e
  unfold mulP
  rw [e]
  have z : (List.replicate (p.length + q.length - 1) 0).getD (p.length + q.length - 2) 0 = 0 := by
    rw [List.getD_eq_getElem?_getD, List.getElem?_replicate]
    split <;> rfl
  rw [z, Nat.zero_xor]
theorem row_zero : ∀ (v : Nat) (i : Nat) (X : List Nat), i < X.length → row v [0] i X = X := by
  intro v i X h
  show X.set i (X.getD i 0 ^^^ nm 4 v 0) = X
  rw [nm_zero_right, Nat.xor_zero]
  apply List.ext_getElem?
  intro j
  rw [List.getElem?_set]
  by_cases hj : i = j
  · subst hj
    simp [h, List.getD]
  · simp [hj]
theorem mulr_zero : ∀ (ps : List Nat) (i : Nat) (X : List Nat), i + ps.length ≤ X.length → mulr [0] ps i X = X := by
  intro ps
  induction ps with
  | nil => intro i X _; rfl
  | cons p ps ih =>
    intro i X h
    rw [List.length_cons] at h
    show mulr [0] ps (i + 1) (row p [0] i X) = X
    rw [row_zero p i X (by omega), ih (i + 1) X (by omega)]
theorem mulP_zero (p : List Nat) : mulP p [0] = List.replicate p.length 0 := by
  unfold mulP
  rw [mulr_zero p 0 _ (by rw [List.length_replicate]; simp)]
  simp

theorem w64n {i j : Nat} (h : i + j < 4611686018427387904) : wrap64 ((i : Int) + (j : Int)) = ((i + j : Nat) : Int) := by unfold wrap64; omega
theorem drop_cons_getD {q : List Nat} {j : Nat} (h : j < q.length) : q.drop j = q.getD j 0 :: q.drop (j + 1) := by
  rw [List.drop_eq_getElem_cons h]; simp [List.getD, h]
theorem st_row (p q : List Nat) (hp : small p) (hq : small q) (lp : p.length ≤ 1048576) (lq : q.length ≤ 1048576) (i : Nat) (hi : i < p.length) (r : List Int) : ∀ (d j : Nat) (X : List Nat), j + d = q.length → X.length = p.length + q.length - 1 → small X →
    Ev (fun k => spec_l05Times.l0 k (nl p) (nl q) (nl (row (p.getD i 0) (q.drop j) (i + j) X)) ((i + 1 : Nat) : Int)) r → Ev (fun k => spec_l05Times.l1 k (nl p) (nl q) (nl X) (i : Int) (j : Int)) r := by
  intro d
  induction d with
  | zero =>
    intro j X hj hX hs h
    rw [List.drop_eq_nil_of_le (by omega)] at h
    refine Ev.step (fun k => ?_) h
    simp only [spec_l05Times.l1]
    rw [nl_length, if_neg (by omega), w64s (by omega)]
    rfl
  | succ d ih =>
    intro j X hj hX hs h
    rw [drop_cons_getD (show j < q.length by omega)] at h
    have lt := nm4_lt (p.getD i 0) (q.getD j 0)
    have ls := small_getD hs (i + j)
    have e := ih (j + 1) (X.set (i + j) (X.getD (i + j) 0 ^^^ nm 4 (p.getD i 0) (q.getD j 0))) (by omega) (by rw [List.length_set]; exact hX) (small_set hs _ (Nat.xor_lt_two_pow (n := 16) ls lt)) h
    refine Ev.step (f := fun k => spec_l05Times.l1 k (nl p) (nl q) (nl (X.set (i + j) (X.getD (i + j) 0 ^^^ nm 4 (p.getD i 0) (q.getD j 0)))) (i : Int) ((j + 1 : Nat) : Int)) (fun k => ?_) e
    simp only [spec_l05Times.l1]
    rw [nl_length, nl_length, nl_length, if_pos (by omega), w64n (by omega), if_pos (by omega), if_pos (by omega), if_pos (by omega), if_pos (by omega), if_pos (by omega), rd_nat, rd_nat, rd_nat, nl_getD, nl_getD, nl_getD,
      st (small_getD hp i) (small_getD hq j), Option.bind_some, xor16 ls lt, Int.toNat_natCast, nl_set, w64s (by omega)]
theorem st_rows (p q : List Nat) (hp : small p) (hq : small q) (lp : p.length ≤ 1048576) (lq : q.length ≤ 1048576) : ∀ (d i : Nat) (X : List Nat), i + d = p.length → X.length = p.length + q.length - 1 → small X →
    Ev (fun k => spec_l05Times.l0 k (nl p) (nl q) (nl X) (i : Int)) (nl (mulr q (p.drop i) i X)) := by
  intro d
  induction d with
  | zero =>
    intro i X hi hX hs
    rw [List.drop_eq_nil_of_le (by omega)]
    refine Ev.step (f := fun _ => some (nl X)) (fun k => ?_) (Ev.now _)
    simp only [spec_l05Times.l0]
    rw [nl_length, if_neg (by omega)]
  | succ d ih =>
    intro i X hi hX hs
    rw [drop_cons_getD (show i < p.length by omega)]
    have e := ih (i + 1) (row (p.getD i 0) q i X) (by omega) (by rw [row_length]; exact hX) (row_small _ _ _ _ hs)
    have e2 := st_row p q hp hq lp lq i (by omega) _ q.length 0 X (by omega) hX hs (by rw [List.drop_zero, Nat.add_zero]; exact e)
    refine Ev.step (f := fun k => spec_l05Times.l1 k (nl p) (nl q) (nl X) (i : Int) 0) (fun k => ?_) e2
    simp only [spec_l05Times.l0]
    rw [nl_length, if_pos (by omega)]
theorem stimes_ev (p q : List Nat) (hp : small p) (hq : small q) (lp : p.length ≤ 1048576) (lq : q.length ≤ 1048576) : ∃ K, ∀ k, K ≤ k → spec_l05Times.f k (nl p) (nl q) = some (nl (if p = [] ∨ q = [] then [] else mulP p q)) := by
  by_cases hz : p = [] ∨ q = []
  · refine ⟨1, fun k hk => ?_⟩
    obtain ⟨k, rfl⟩ : ∃ m, k = m + 1 := ⟨k - 1, by omega⟩
    rw [if_pos hz]
    unfold spec_l05Times.f
    rcases hz with rfl | rfl
    · rw [if_pos (by simp [nl])]; simp only [spec_l05Times.j0]; rw [if_pos trivial]; rfl
    · have h0 : (((nl []).length : Int) == 0) = true := by simp [nl]
      rw [h0]
      simp only [ite_self, spec_l05Times.j0]
      rw [if_pos trivial]; rfl
  · have hp0 : p.length ≠ 0 := fun e => hz (.inl (List.eq_nil_of_length_eq_zero e))
    have hq0 : q.length ≠ 0 := fun e => hz (.inr (List.eq_nil_of_length_eq_zero e))
    obtain ⟨K, h⟩ := st_rows p q hp hq lp lq p.length 0 (List.replicate (p.length + q.length - 1) 0) (by omega) (by simp) (small_zeros _)
    rw [List.drop_zero] at h
    refine ⟨K + 1, fun k hk => ?_⟩
    obtain ⟨k, rfl⟩ : ∃ m, k = m + 1 := ⟨k - 1, by omega⟩
    have w : wrap64 (wrap64 ((p.length : Int) + (q.length : Int)) - 1) = ((p.length + q.length - 1 : Nat) : Int) := by unfold wrap64; omega
    have hd : ((q.length : Int) == 0) = false := beq_eq_false_iff_ne.mpr (by omega)
    unfold spec_l05Times.f
    rw [nl_length, nl_length, if_neg (by omega), hd]
    simp only [spec_l05Times.j0]
    rw [if_neg (by decide), nl_length, nl_length, w, if_pos (by omega), Int.toNat_natCast, if_pos (by omega), nl_replicate, if_neg hz]
    exact h k (by omega)
theorem it_row (p q : List Nat) (hp : small p) (hq : small q) (lp : p.length ≤ 1048576) (lq : q.length ≤ 1048576) (i : Nat) (hi : i < p.length) (r : List Int) : ∀ (d j : Nat) (X : List Nat), j + d = q.length → X.length = p.length + q.length - 1 → small X →
    Ev (fun k => impl_Poly_times.l0 k (nl q) (nl (row (p.getD i 0) (q.drop j) (i + j) X)) (nl p) (p.length : Int) ((i + 1 : Nat) : Int)) r →
    Ev (fun k => impl_Poly_times.l1 k (nl q) (nl X) (i : Int) ((p.getD i 0 : Nat) : Int) (nl p) (p.length : Int) (i : Int) (nl q) (q.length : Int) (j : Int)) r := by
  intro d
  induction d with
  | zero =>
    intro j X hj hX hs h
    rw [List.drop_eq_nil_of_le (by omega)] at h
    refine Ev.step (fun k => ?_) h
    simp only [impl_Poly_times.l1]
    rw [if_neg (by omega), w64s (by omega)]
    rfl
  | succ d ih =>
    intro j X hj hX hs h
    rw [drop_cons_getD (show j < q.length by omega)] at h
    have lt := nm4_lt (p.getD i 0) (q.getD j 0)
    have ls := small_getD hs (i + j)
    have e := ih (j + 1) (X.set (i + j) (X.getD (i + j) 0 ^^^ nm 4 (p.getD i 0) (q.getD j 0))) (by omega) (by rw [List.length_set]; exact hX) (small_set hs _ (Nat.xor_lt_two_pow (n := 16) ls lt)) h
    refine Ev.step (f := fun k => impl_Poly_times.l1 k (nl q) (nl (X.set (i + j) (X.getD (i + j) 0 ^^^ nm 4 (p.getD i 0) (q.getD j 0)))) (i : Int) ((p.getD i 0 : Nat) : Int) (nl p) (p.length : Int) (i : Int) (nl q) (q.length : Int) ((j + 1 : Nat) : Int)) (fun k => ?_) e
    simp only [impl_Poly_times.l1]
    rw [nl_length, nl_length, if_pos (by omega), if_pos (by omega), if_pos (by omega), w64n (by omega), if_pos (by omega), if_pos (by omega), rd_nat, rd_nat, nl_getD, nl_getD,
      it (small_getD hp i) (small_getD hq j), Option.bind_some, xor16 ls lt, Int.toNat_natCast, nl_set, w64s (by omega)]
theorem it_rows (p q : List Nat) (hp : small p) (hq : small q) (lp : p.length ≤ 1048576) (lq : q.length ≤ 1048576) : ∀ (d i : Nat) (X : List Nat), i + d = p.length → X.length = p.length + q.length - 1 → small X →
    Ev (fun k => impl_Poly_times.l0 k (nl q) (nl X) (nl p) (p.length : Int) (i : Int)) (trimL (nl (mulr q (p.drop i) i X))) := by
  intro d
  induction d with
  | zero =>
    intro i X hi hX hs
    rw [List.drop_eq_nil_of_le (by omega)]
    refine Ev.step (f := fun _ => some (trimL (nl X))) (fun k => ?_) (Ev.now _)
    simp only [impl_Poly_times.l0]
    rw [if_neg (by omega), itrim _ (by rw [nl_length]; omega), Option.bind_some]
  | succ d ih =>
    intro i X hi hX hs
    rw [drop_cons_getD (show i < p.length by omega)]
    have e := ih (i + 1) (row (p.getD i 0) q i X) (by omega) (by rw [row_length]; exact hX) (row_small _ _ _ _ hs)
    have e2 := it_row p q hp hq lp lq i (by omega) _ q.length 0 X (by omega) hX hs (by rw [List.drop_zero, Nat.add_zero]; exact e)
    refine Ev.step (f := fun k => impl_Poly_times.l1 k (nl q) (nl X) (i : Int) ((p.getD i 0 : Nat) : Int) (nl p) (p.length : Int) (i : Int) (nl q) (q.length : Int) 0) (fun k => ?_) e2
    simp only [impl_Poly_times.l0]
    rw [nl_length, nl_length, if_pos (by omega), if_pos (by omega), if_pos (by omega), rd_nat, nl_getD]
theorem itimes_ev (p q : List Nat) (hp : small p) (hq : small q) (lp : p.length ≤ 1048576) (lq : q.length ≤ 1048576) : ∃ K, ∀ k, K ≤ k → impl_Poly_times.f k (nl p) (nl q) = some (if p = [] ∨ q = [] then [] else trimL (nl (mulP p q))) := by
  by_cases hz : p = [] ∨ q = []
  · refine ⟨1, fun k hk => ?_⟩
    obtain ⟨k, rfl⟩ : ∃ m, k = m + 1 := ⟨k - 1, by omega⟩
    rw [if_pos hz]
    unfold impl_Poly_times.f
    rcases hz with rfl | rfl
    · rw [if_pos (by simp [nl])]; simp only [impl_Poly_times.j0]; rw [if_pos trivial]
    · have h0 : (((nl []).length : Int) == 0) = true := by simp [nl]
      rw [h0]
      simp only [ite_self, impl_Poly_times.j0]
      rw [if_pos trivial]
  · have hp0 : p.length ≠ 0 := fun e => hz (.inl (List.eq_nil_of_length_eq_zero e))
    have hq0 : q.length ≠ 0 := fun e => hz (.inr (List.eq_nil_of_length_eq_zero e))
    obtain ⟨K, h⟩ := it_rows p q hp hq lp lq p.length 0 (List.replicate (p.length + q.length - 1) 0) (by omega) (by simp) (small_zeros _)
    rw [List.drop_zero] at h
    refine ⟨K + 1, fun k hk => ?_⟩
    obtain ⟨k, rfl⟩ : ∃ m, k = m + 1 := ⟨k - 1, by omega⟩
    have w : wrap64 (wrap64 ((p.length : Int) + (q.length : Int)) - 1) = ((p.length + q.length - 1 : Nat) : Int) := by unfold wrap64; omega
    have hd : ((q.length : Int) == 0) = false := beq_eq_false_iff_ne.mpr (by omega)
    unfold impl_Poly_times.f
    rw [nl_length, nl_length, if_neg (by omega), hd]
    simp only [impl_Poly_times.j0]
    rw [if_neg (by decide), nl_length, nl_length, w, if_pos (by omega), Int.toNat_natCast, if_pos (by omega), nl_replicate, if_neg hz]
    exact h k (by omega)
/-- a list without zeros at its end is left as it is -/
theorem trimL_id {X : List Nat} (h : X ≠ []) (hl : X.getD (X.length - 1) 0 ≠ 0) : trimL (nl X) = nl X := by
  have hp : 0 < X.length := List.length_pos_iff.2 h
  unfold trimL
  obtain ⟨n, hn⟩ : ∃ n, X.length = n + 1 := ⟨X.length - 1, by omega⟩
  rw [nl_length, hn, trimN_succ, nl_getD, if_neg (by rw [hn] at hl; simp only [Nat.add_sub_cancel] at hl; omega), List.take_of_length_le (by rw [nl_length]; omega)]
theorem mul_trim (p q : List Nat) (hp : small p) (hq : small q) (p0 : p ≠ []) (q0 : q ≠ []) (pl : p.getD (p.length - 1) 0 ≠ 0) (ql : q.getD (q.length - 1) 0 ≠ 0) : trimL (nl (mulP p q)) = nl (mulP p q) ∧ mulP p q ≠ [] ∧ (mulP p q).getD ((mulP p q).length - 1) 0 = nm 4 (p.getD (p.length - 1) 0) (q.getD (q.length - 1) 0) := by
  have h1 : 0 < p.length := List.length_pos_iff.2 p0
  have h2 : 0 < q.length := List.length_pos_iff.2 q0
  have hn : mulP p q ≠ [] := by
    intro e
    have := congrArg List.length e
    rw [mulP_length, List.length_nil] at this
    omega
  have hlast : (mulP p q).getD ((mulP p q).length - 1) 0 = nm 4 (p.getD (p.length - 1) 0) (q.getD (q.length - 1) 0) := by
    rw [mulP_length, show p.length + q.length - 1 - 1 = p.length + q.length - 2 by omega, mulP_last p q p0 q0]
  refine ⟨trimL_id hn ?_, hn, hlast⟩
  rw [hlast]
  have := nm4_ne_zero (a := p.getD (p.length - 1) 0) (b := q.getD (q.length - 1) 0) (by omega) (small_getD hp _) (by omega) (small_getD hq _)
  omega

theorem roots_both (l : List Nat) (hl : small l) (h20 : l.length ≤ 20) : ∀ (d i : Nat) (X : List Nat), i + d = l.length → X.length = i + 1 → small X → X.getD (X.length - 1) 0 = 1 → ∃ R : List Nat, R.length ≤ 21 ∧
    Ev (fun k => spec_l05Roots.l0 k (nl l) (nl X) (i : Int)) (nl R) ∧ Ev (fun k => impl_fromRoots.l0 k (nl X) (nl l) (l.length : Int) (i : Int)) (nl R) := by
  intro d
  induction d with
  | zero =>
    intro i X hi hX hs h1
    exact ⟨X, by omega, Ev.step (f := fun _ => some (nl X)) (fun k => by simp only [spec_l05Roots.l0]; rw [nl_length, if_neg (by omega)]) (Ev.now _),
      Ev.step (f := fun _ => some (nl X)) (fun k => by simp only [impl_fromRoots.l0]; rw [if_neg (by omega)]) (Ev.now _)⟩
  | succ d ih =>
    intro i X hi hX hs h1
    have lr := small_getD hl i
    have hq : small [l.getD i 0, 1] := by
      intro x hx
      rcases List.mem_cons.1 hx with rfl | hx
      · exact lr
      · rw [List.mem_singleton.1 hx]; omega
    have hnl : ([rd (nl l) (i : Int), 1] : List Int) = nl [l.getD i 0, 1] := by rw [rd_nat, nl_getD]; rfl
    have hX0 : X ≠ [] := by intro e; rw [e] at hX; simp at hX
    obtain ⟨ht, hn, hlast⟩ := mul_trim X [l.getD i 0, 1] hs hq hX0 (by simp) (by omega) (by simp [List.getD])
    have hz : ¬ (X = [] ∨ [l.getD i 0, 1] = []) := by simp [hX0]
    obtain ⟨K1, e1⟩ := stimes_ev X [l.getD i 0, 1] hs hq (by omega) (by simp)
    obtain ⟨K2, e2⟩ := itimes_ev X [l.getD i 0, 1] hs hq (by omega) (by simp)
    rw [if_neg hz] at e1 e2
    rw [ht] at e2
    have hone : (mulP X [l.getD i 0, 1]).getD ((mulP X [l.getD i 0, 1]).length - 1) 0 = 1 := by
      rw [hlast, h1]
      show nm 4 1 1 = 1
      rw [nm4_one_left (by omega)]
    obtain ⟨R, hR, ⟨K3, g1⟩, ⟨K4, g2⟩⟩ := ih (i + 1) (mulP X [l.getD i 0, 1]) (by omega) (by rw [mulP_length, hX]; simp) (mulP_small _ _) hone
    refine ⟨R, hR, ⟨K1 + K3 + 1, fun k hk => ?_⟩, ⟨K2 + K4 + 1, fun k hk => ?_⟩⟩
    · obtain ⟨k, rfl⟩ : ∃ m, k = m + 1 := ⟨k - 1, by omega⟩
      simp only [spec_l05Roots.l0]
      rw [nl_length, if_pos (by omega), if_pos (by omega), hnl, e1 k (by omega), Option.bind_some, w64s (by omega)]
      exact g1 k (by omega)
    · obtain ⟨k, rfl⟩ : ∃ m, k = m + 1 := ⟨k - 1, by omega⟩
      simp only [impl_fromRoots.l0]
      rw [nl_length, if_pos (by omega), if_pos (by omega), if_pos (by omega), hnl, e2 k (by omega), Option.bind_some, w64s (by omega)]
      exact g2 k (by omega)
theorem roots_ev (l : List Nat) (hl : small l) (h20 : l.length ≤ 20) : ∃ K, ∃ r : List Int, r.length ≤ 21 ∧ ∀ k, K ≤ k → spec_l05Roots.f k (nl l) = some r ∧ impl_fromRoots.f k (nl l) = some r := by
  obtain ⟨R, hR, ⟨K1, g1⟩, ⟨K2, g2⟩⟩ := roots_both l hl h20 l.length 0 [1] (by omega) rfl (by intro x hx; rw [List.mem_singleton.1 hx]; omega) rfl
  refine ⟨K1 + K2, nl R, by rw [nl_length]; omega, fun k hk => ⟨?_, ?_⟩⟩
  · unfold spec_l05Roots.f; exact g1 k (by omega)
  · unfold impl_fromRoots.f; rw [nl_length]; exact g2 k (by omega)

theorem conj_ends (a : Nat) (ha : a < 65536) : ∀ (d i : Nat) (l : List Nat), i + d = 16 → 1 ≤ i → l.length = i → small l → ∃ r : List Nat, r.length ≤ 16 ∧ small r ∧ Ev (fun k => impl_conjugates.l0 k (a : Int) (nl l) ((sqn i a : Nat) : Int)) (nl r) := by
  intro d
  induction d with
  | zero =>
    intro i l hi h1 hl sl
    have hi16 : i = 16 := by omega
    subst hi16
    rw [sqn16 ha]
    exact ⟨l, by omega, sl, Ev.step (f := fun _ => some (nl l)) (fun k => by simp only [impl_conjugates.l0]; rw [if_pos trivial]) (Ev.now _)⟩
  | succ d ih =>
    intro i l hi h1 hl sl
    by_cases he : ((sqn i a : Nat) : Int) = (a : Int)
    · exact ⟨l, by omega, sl, Ev.step (f := fun _ => some (nl l)) (fun k => by simp only [impl_conjugates.l0]; rw [if_pos he]) (Ev.now _)⟩
    · have hs := sqn_lt ha i
      obtain ⟨r, hr, sr, e⟩ := ih (i + 1) (l ++ [sqn i a]) (by omega) (by omega) (by simp [hl]) (by
        intro x hx
        rcases List.mem_append.1 hx with h | h
        · exact sl x h
        · rw [List.mem_singleton.1 h]; exact hs)
      rw [sqn_succ] at e
      generalize sqn i a = s at e he hs
      have en : nl (l ++ [s]) = nl l ++ [(s : Int)] := by simp [nl]
      rw [en] at e
      refine ⟨r, hr, sr, Ev.step (f := fun k => impl_conjugates.l0 k (a : Int) (nl l ++ [(s : Int)]) ((nm 4 s s : Nat) : Int)) (fun k => ?_) e⟩
      simp only [impl_conjugates.l0]
      have hlen : (nl l).length = l.length := nl_length l
      rw [if_neg he, if_pos (by omega), it hs hs, Option.bind_some]
theorem conj_same (k : Nat) : ∀ (a : Int) (l : List Int) (x : Int), spec_ConjugatesOf.l0 k a l x = impl_conjugates.l0 k a l x := by
  induction k with
  | zero => intro a l x; rfl
  | succ k ih =>
    intro a l x
    simp only [spec_ConjugatesOf.l0, impl_conjugates.l0, ih]
    rfl
theorem conj_both (a : Nat) (ha : a < 65536) : ∃ K, ∃ r : List Nat, r.length ≤ 16 ∧ small r ∧ ∀ k, K ≤ k → spec_ConjugatesOf.f k (a : Int) = some (nl r) ∧ impl_conjugates.f k (a : Int) = some (nl r) := by
  obtain ⟨r, hr, sr, K, h⟩ := conj_ends a ha 15 1 [a] (by omega) (by omega) rfl (by intro x hx; rw [List.mem_singleton.1 hx]; exact ha)
  have e1 : sqn 1 a = nm 4 a a := rfl
  rw [e1] at h
  refine ⟨K, r, hr, sr, fun k hk => ⟨?_, ?_⟩⟩
  · unfold spec_ConjugatesOf.f
    rw [st ha ha, Option.bind_some, conj_same]
    exact h k hk
  · unfold impl_conjugates.f
    rw [it ha ha, Option.bind_some]
    exact h k hk
theorem FnExactMinimalPoly : laws_FnExactMinimalPoly.Pure := by
  intro a0 h0
  obtain ⟨a, rfl, ha⟩ := wf_u16 h0
  obtain ⟨Kc, R, hR, sR, hc⟩ := conj_both a ha
  obtain ⟨Kr, r, hr, hf⟩ := roots_ev R sR (by omega)
  have h1 : ∀ k, Kc + Kr ≤ k → spec_MinimalPoly.f k (a : Int) = some r ∧ impl_MinimalPoly.f k (a : Int) = some r := by
    intro k hk
    refine ⟨?_, ?_⟩
    · unfold spec_MinimalPoly.f
      rw [(hc k (by omega)).1, Option.bind_some, (hf k (by omega)).1, Option.bind_some]
    · unfold impl_MinimalPoly.f
      rw [(hc k (by omega)).2, Option.bind_some, (hf k (by omega)).2, Option.bind_some]
  obtain ⟨K2, h2⟩ := eqPoly_ev r (by omega)
  obtain ⟨K3, h3⟩ := markPoly_ev r 1 (by omega) (by omega)
  obtain ⟨K4, h4⟩ := heldPoly_ev r.length 1 (by omega) (by omega)
  obtain ⟨K, hK⟩ : ∃ K, K = Kc + Kr + K2 + K3 + K4 := ⟨_, rfl⟩
  have n2 : ¬ (1 + (r.length : Int) < 0) := by omega
  refine ⟨K, ?_⟩
  unfold laws_FnExactMinimalPoly.f
  simp only [Option.bind_some, (h1 K (by omega)).1, (h1 K (by omega)).2, h2 K (by omega), h3 K (by omega), h4 K (by omega), n2, if_false, if_true]

end Go.Proofs.Ytkmpdnnifohifaa.Pure
