/- The law FnExactTimesPoly returns true for all arguments, as a statement on numbers and lists alone. -/
import Derived.Test.YtkmpdnnifohifaaRFnExactTimesPolyx3
import Derived.Test.YtkmpdnnifohifaaN1
namespace Go.Proofs.Ytkmpdnnifohifaa.Pure
open Go.RowKit Go.Proofs.Ytkmpdnnifohifaa.RFnExactTimesPoly Go.Proofs.YtkmpdnnifohifaaW.PrintWords Go.Proofs.YtkmpdnnifohifaaW.PrintLast Go.Proofs.YtkmpdnnifohifaaW.PrintMore Go.Proofs.Ytkmpdnnifohifaa.NimF Go.Proofs.Ytkmpdnnifohifaa.NimGo Go.Proofs.Ytkmpdnnifohifaa.Given Go.Proofs.Ytkmpdnnifohifaa.RPTimes
theorem st {a b : Nat} (ha : a < 65536) (hb : b < 65536) : spec_l01Times.f (a : Int) (b : Int) = some ((nm 4 a b : Nat) : Int) := nimTimes_nat ha hb

theorem it {a b : Nat} (ha : a < 65536) (hb : b < 65536) : impl_times.f (a : Int) (b : Int) = some ((nm 4 a b : Nat) : Int) := nimTimes_nat ha hb

theorem toPoly_ev (l : List Int) (h : l.length ≤ 1048576) : ∃ K, ∀ k, K ≤ k → laws_toPoly.f k l = some l :=
  to_ev (fun _ _ => rfl) (fun _ _ _ _ => rfl) l (by omega)
theorem eqPoly_ev (l : List Int) (h : l.length ≤ 1048576) : ∃ K, ∀ k, K ≤ k → laws_eqPoly.f k l l = some true :=
  eq_refl_ev (fun _ _ _ => rfl) (fun _ _ _ _ => rfl) l (by omega)

theorem markPoly_ev (l : List Int) (c : Int) (h0 : 0 ≤ c) (h : c + (l.length : Int) ≤ 4611686018427387900) : ∃ K, ∀ k, K ≤ k → laws_markPoly.f k l c = some (c + (l.length : Int), marks .u16 c l.length) :=
  mark_ev (fun _ _ _ => rfl) (fun _ _ _ _ => rfl) l c h0 h
theorem heldPoly_ev (n : Nat) (c : Int) (h0 : 0 ≤ c) (h : c + (n : Int) ≤ 4611686018427387900) : ∃ K, ∀ k, K ≤ k → laws_heldPoly.f k (marks .u16 c n) c = some (c + (n : Int)) :=
  held_ev (fun _ _ _ => rfl) (fun _ _ _ _ => rfl) n c h0 h

def vpoly (l : List Int) : Bool := l.length == 0 || (decide (l.length ≤ 21) && l.getD (l.length - 1) 0 != 0)
theorem last_rd (l : List Int) (h : l.length ≠ 0) (h2 : l.length ≤ 1048576) : wrap64 ((l.length : Int) - 1) = ((l.length - 1 : Nat) : Int) := by
  unfold wrap64; omega
theorem spec_ok (l : List Int) (h : l.length ≤ 1048576) : spec_l05Ok.f l = some (vpoly l) := by
  unfold spec_l05Ok.f vpoly
  by_cases h0 : l.length = 0
  · rw [if_pos (by omega), h0]; rfl
  · rw [if_neg (by omega)]
    have hb : (l.length == 0) = false := by simpa using h0
    by_cases h21 : l.length ≤ 21
    · rw [if_pos (by omega), last_rd l h0 h, if_pos (by omega), if_pos (by omega), rd_nat, hb, decide_eq_true h21]; rfl
    · rw [if_neg (by omega), hb, decide_eq_false h21]; rfl

theorem itrim (l : List Int) (hl : l.length ≤ 2097152) : impl_trim.f l = some (trimL l) := by
  unfold impl_trim.f cloneL
  rw [if_pos (by rw [trimL_length]; have := trimN_le l l.length; omega)]

/-! products of lists of numbers, as both texts make them -/
/-- a list of natural numbers as one of whole numbers -/
def nl (X : List Nat) : List Int := X.map fun (n : Nat) => (n : Int)
theorem nl_length (X : List Nat) : (nl X).length = X.length := by simp [nl]
theorem nl_getD (X : List Nat) (i : Nat) : (nl X).getD i 0 = ((X.getD i 0 : Nat) : Int) := by
  simp only [nl, List.getD_eq_getElem?_getD, List.getElem?_map]
  cases X[i]? <;> simp
theorem nl_set (X : List Nat) (i v : Nat) : (nl X).set i (v : Int) = nl (X.set i v) := by simp [nl, List.map_set]
theorem nl_replicate (n : Nat) : List.replicate n (0 : Int) = nl (List.replicate n 0) := by simp [nl]
theorem nl_of {l : List Int} (h : ∀ x ∈ l, (Lit.int .u16 x).wf = true) : ∃ X : List Nat, l = nl X ∧ ∀ x ∈ X, x < 65536 := by
  induction l with
  | nil => exact ⟨[], rfl, by simp⟩
  | cons x l ih =>
    obtain ⟨X, e, hX⟩ := ih (fun y hy => h y (List.mem_cons_of_mem _ hy))
    obtain ⟨n, rfl, ln⟩ := wf_u16 (h x List.mem_cons_self)
    exact ⟨n :: X, by rw [e]; rfl, fun y hy => by
      rcases List.mem_cons.1 hy with rfl | hy
      · exact ln
      · exact hX y hy⟩
def small (X : List Nat) : Prop := ∀ x ∈ X, x < 65536
theorem small_getD {X : List Nat} (h : small X) (i : Nat) : X.getD i 0 < 65536 := by
  rw [List.getD_eq_getElem?_getD]
  cases e : X[i]? with
  | none => simp
  | some v => exact h v (List.mem_of_getElem? e)
theorem small_set {X : List Nat} (h : small X) (i : Nat) {v : Nat} (hv : v < 65536) : small (X.set i v) := by
  intro x hx
  rcases List.mem_or_eq_of_mem_set hx with h1 | h1
  · exact h x h1
  · rw [h1]; exact hv
theorem small_zeros (n : Nat) : small (List.replicate n 0) := by
  intro x hx
  rw [List.eq_of_mem_replicate hx]; omega
/-- one number times a list, added from a place on -/
def row (v : Nat) : List Nat → Nat → List Nat → List Nat
  | [], _, X => X
  | y :: ys, i, X => row v ys (i + 1) (X.set i (X.getD i 0 ^^^ nm 4 v y))
def mulr (ys : List Nat) : List Nat → Nat → List Nat → List Nat
  | [], _, X => X
  | p :: ps, i, X => mulr ys ps (i + 1) (row p ys i X)
def mulP (p q : List Nat) : List Nat := mulr q p 0 (List.replicate (p.length + q.length - 1) 0)
theorem row_length (v : Nat) : ∀ (ys : List Nat) (i : Nat) (X : List Nat), (row v ys i X).length = X.length := by
  intro ys
  induction ys with
  | nil => intro i X; rfl
  | cons y ys ih => intro i X; show (row v ys _ _).length = _; rw [ih, List.length_set]
theorem row_small (v : Nat) : ∀ (ys : List Nat) (i : Nat) (X : List Nat), small X → small (row v ys i X) := by
  intro ys
  induction ys with
  | nil => intro i X h; exact h
  | cons y ys ih => intro i X h; exact ih _ _ (small_set h _ (Nat.xor_lt_two_pow (n := 16) (small_getD h i) (nm4_lt v y)))
theorem mulr_length (ys : List Nat) : ∀ (ps : List Nat) (i : Nat) (X : List Nat), (mulr ys ps i X).length = X.length := by
  intro ps
  induction ps with
  | nil => intro i X; rfl
  | cons p ps ih => intro i X; show (mulr ys ps _ _).length = _; rw [ih, row_length]
theorem mulr_small (ys : List Nat) : ∀ (ps : List Nat) (i : Nat) (X : List Nat), small X → small (mulr ys ps i X) := by
  intro ps
  induction ps with
  | nil => intro i X h; exact h
  | cons p ps ih => intro i X h; exact ih _ _ (row_small p ys i X h)
theorem mulP_length (p q : List Nat) : (mulP p q).length = p.length + q.length - 1 := by unfold mulP; rw [mulr_length, List.length_replicate]
theorem mulP_small (p q : List Nat) : small (mulP p q) := mulr_small q p 0 _ (small_zeros _)
theorem getD_set_self {X : List Nat} {i v : Nat} (h : i < X.length) : (X.set i v).getD i 0 = v := by simp [List.getD, h]
theorem getD_set_ne {X : List Nat} {i j v : Nat} (h : i ≠ j) : (X.set i v).getD j 0 = X.getD j 0 := by simp [List.getD, h]
theorem row_beyond (v : Nat) : ∀ (ys : List Nat) (i t : Nat) (X : List Nat), (t < i ∨ i + ys.length ≤ t) → (row v ys i X).getD t 0 = X.getD t 0 := by
  intro ys
  induction ys with
  | nil => intro i t X _; rfl
  | cons y ys ih =>
    intro i t X h
    rw [List.length_cons] at h
    show (row v ys (i + 1) _).getD t 0 = _
    rw [ih (i + 1) t _ (by omega), getD_set_ne (by omega)]
theorem row_last (v : Nat) : ∀ (ys : List Nat) (i : Nat) (X : List Nat), ys ≠ [] → i + ys.length ≤ X.length → (row v ys i X).getD (i + ys.length - 1) 0 = X.getD (i + ys.length - 1) 0 ^^^ nm 4 v (ys.getD (ys.length - 1) 0) := by
  intro ys
  induction ys with
  | nil => intro i X h; exact absurd rfl h
  | cons y ys ih =>
    intro i X _ hl
    rw [List.length_cons] at hl ⊢
    show (row v ys (i + 1) _).getD _ 0 = _
    by_cases he : ys = []
    · subst he
      simp only [List.length_nil, Nat.add_sub_cancel, Nat.zero_add, row]
      rw [getD_set_self (by simp only [List.length_nil] at hl; omega)]
      rfl
    · have hpos : 0 < ys.length := List.length_pos_iff.2 he
      have e := ih (i + 1) (X.set i (X.getD i 0 ^^^ nm 4 v y)) he (by rw [List.length_set]; omega)
      rw [show i + (ys.length + 1) - 1 = i + 1 + ys.length - 1 by omega, e, getD_set_ne (by omega)]
      congr 2
      rw [show ys.length + 1 - 1 = ys.length - 1 + 1 by omega]
      rfl
theorem mulr_last (ys : List Nat) (hy : ys ≠ []) : ∀ (ps : List Nat) (i : Nat) (X : List Nat), ps ≠ [] → i + ps.length + ys.length ≤ X.length + 1 →
    (mulr ys ps i X).getD (i + ps.length + ys.length - 2) 0 = X.getD (i + ps.length + ys.length - 2) 0 ^^^ nm 4 (ps.getD (ps.length - 1) 0) (ys.getD (ys.length - 1) 0) := by
  intro ps
  have hpos : 0 < ys.length := List.length_pos_iff.2 hy
  induction ps with
  | nil => intro i X h; exact absurd rfl h
  | cons p ps ih =>
    intro i X _ hl
    rw [List.length_cons] at hl ⊢
    show (mulr ys ps (i + 1) (row p ys i X)).getD _ 0 = _
    by_cases he : ps = []
    · subst he
      simp only [List.length_nil] at hl ⊢
      show (row p ys i X).getD _ 0 = _
      rw [show i + (0 + 1) + ys.length - 2 = i + ys.length - 1 by omega, row_last p ys i X hy (by omega)]
      rfl
    · have hp2 : 0 < ps.length := List.length_pos_iff.2 he
      have e := ih (i + 1) (row p ys i X) he (by rw [row_length]; omega)
      rw [show i + (ps.length + 1) + ys.length - 2 = i + 1 + ps.length + ys.length - 2 by omega, e, row_beyond p ys i _ X (by omega)]
      congr 2
      rw [show ps.length + 1 - 1 = ps.length - 1 + 1 by omega]
      rfl
/-- the last number of a product -/
theorem mulP_last (p q : List Nat) (hp : p ≠ []) (hq : q ≠ []) : (mulP p q).getD (p.length + q.length - 2) 0 = nm 4 (p.getD (p.length - 1) 0) (q.getD (q.length - 1) 0) := by
  have h1 : 0 < p.length := List.length_pos_iff.2 hp
  have h2 : 0 < q.length := List.length_pos_iff.2 hq
  have e := mulr_last q hq p 0 (List.replicate (p.length + q.length - 1) 0) hp (by rw [List.length_replicate]; omega)
  rw [Nat.zero_add] at e
  unfold mulP
  rw [e]
  have z : (List.replicate (p.length + q.length - 1) 0).getD (p.length + q.length - 2) 0 = 0 := by
    rw [List.getD_eq_getElem?_getD, List.getElem?_replicate]
    split <;> rfl
  rw [z, Nat.zero_xor]
theorem row_zero : ∀ (v : Nat) (i : Nat) (X : List Nat), i < X.length → row v [0] i X = X := by
  intro v i X h
  show X.set i (X.getD i 0 ^^^ nm 4 v 0) = X
  rw [nm_zero_right, Nat.xor_zero]
  apply List.ext_getElem?
  intro j
  rw [List.getElem?_set]
  by_cases hj : i = j
  · subst hj
    simp [h, List.getD]
  · simp [hj]
theorem mulr_zero : ∀ (ps : List Nat) (i : Nat) (X : List Nat), i + ps.length ≤ X.length → mulr [0] ps i X = X := by
  intro ps
  induction ps with
  | nil => intro i X _; rfl
  | cons p ps ih =>
    intro i X h
    rw [List.length_cons] at h
    show mulr [0] ps (i + 1) (row p [0] i X) = X
    rw [row_zero p i X (by omega), ih (i + 1) X (by omega)]
theorem mulP_zero (p : List Nat) : mulP p [0] = List.replicate p.length 0 := by
  unfold mulP
  rw [mulr_zero p 0 _ (by rw [List.length_replicate]; simp)]
  simp

theorem vpoly_nl {X : List Nat} (h : vpoly (nl X) = true) : X.length ≤ 21 ∧ (X ≠ [] → X.getD (X.length - 1) 0 ≠ 0) := by
  unfold vpoly at h
  rw [nl_length, nl_getD] at h
  simp only [Bool.or_eq_true, beq_iff_eq, Bool.and_eq_true, decide_eq_true_eq, bne_iff_ne, ne_eq] at h
  rcases h with h | ⟨h1, h2⟩
  · exact ⟨by omega, fun e => absurd (List.eq_nil_of_length_eq_zero h) e⟩
  · exact ⟨h1, fun _ => by omega⟩

theorem w64n {i j : Nat} (h : i + j < 4611686018427387904) : wrap64 ((i : Int) + (j : Int)) = ((i + j : Nat) : Int) := by unfold wrap64; omega
theorem drop_cons_getD {q : List Nat} {j : Nat} (h : j < q.length) : q.drop j = q.getD j 0 :: q.drop (j + 1) := by
  rw [List.drop_eq_getElem_cons h]; simp [List.getD, h]
theorem st_row (p q : List Nat) (hp : small p) (hq : small q) (lp : p.length ≤ 1048576) (lq : q.length ≤ 1048576) (i : Nat) (hi : i < p.length) (r : List Int) : ∀ (d j : Nat) (X : List Nat), j + d = q.length → X.length = p.length + q.length - 1 → small X →
    Ev (fun k => spec_l05Times.l0 k (nl p) (nl q) (nl (row (p.getD i 0) (q.drop j) (i + j) X)) ((i + 1 : Nat) : Int)) r → Ev (fun k => spec_l05Times.l1 k (nl p) (nl q) (nl X) (i : Int) (j : Int)) r := by
  intro d
  induction d with
  | zero =>
    intro j X hj hX hs h
    rw [List.drop_eq_nil_of_le (by omega)] at h
    refine Ev.step (fun k => ?_) h
    simp only [spec_l05Times.l1]
    rw [nl_length, if_neg (by omega), w64s (by omega)]
    rfl
  | succ d ih =>
    intro j X hj hX hs h
    rw [drop_cons_getD (show j < q.length by omega)] at h
    have lt := nm4_lt (p.getD i 0) (q.getD j 0)
    have ls := small_getD hs (i + j)
    have e := ih (j + 1) (X.set (i + j) (X.getD (i + j) 0 ^^^ nm 4 (p.getD i 0) (q.getD j 0))) (by omega) (by rw [List.length_set]; exact hX) (small_set hs _ (Nat.xor_lt_two_pow (n := 16) ls lt)) h
    refine Ev.step (f := fun k => spec_l05Times.l1 k (nl p) (nl q) (nl (X.set (i + j) (X.getD (i + j) 0 ^^^ nm 4 (p.getD i 0) (q.getD j 0)))) (i : Int) ((j + 1 : Nat) : Int)) (fun k => ?_) e
    simp only [spec_l05Times.l1]
    rw [nl_length, nl_length, nl_length, if_pos (by omega), w64n (by omega), if_pos (by omega), if_pos (by omega), if_pos (by omega), if_pos (by omega), if_pos (by omega), rd_nat, rd_nat, rd_nat, nl_getD, nl_getD, nl_getD,
      st (small_getD hp i) (small_getD hq j), Option.bind_some, xor16 ls lt, Int.toNat_natCast, nl_set, w64s (by omega)]
theorem st_rows (p q : List Nat) (hp : small p) (hq : small q) (lp : p.length ≤ 1048576) (lq : q.length ≤ 1048576) : ∀ (d i : Nat) (X : List Nat), i + d = p.length → X.length = p.length + q.length - 1 → small X →
    Ev (fun k => spec_l05Times.l0 k (nl p) (nl q) (nl X) (i : Int)) (nl (mulr q (p.drop i) i X)) := by
  intro d
  induction d with
  | zero =>
    intro i X hi hX hs
    rw [List.drop_eq_nil_of_le (by omega)]
    refine Ev.step (f := fun _ => some (nl X)) (fun k => ?_) (Ev.now _)
    simp only [spec_l05Times.l0]
    rw [nl_length, if_neg (by omega)]
  | succ d ih =>
    intro i X hi hX hs
    rw [drop_cons_getD (show i < p.length by omega)]
    have e := ih (i + 1) (row (p.getD i 0) q i X) (by omega) (by rw [row_length]; exact hX) (row_small _ _ _ _ hs)
    have e2 := st_row p q hp hq lp lq i (by omega) _ q.length 0 X (by omega) hX hs (by rw [List.drop_zero, Nat.add_zero]; exact e)
    refine Ev.step (f := fun k => spec_l05Times.l1 k (nl p) (nl q) (nl X) (i : Int) 0) (fun k => ?_) e2
    simp only [spec_l05Times.l0]
    rw [nl_length, if_pos (by omega)]
theorem stimes_ev (p q : List Nat) (hp : small p) (hq : small q) (lp : p.length ≤ 1048576) (lq : q.length ≤ 1048576) : ∃ K, ∀ k, K ≤ k → spec_l05Times.f k (nl p) (nl q) = some (nl (if p = [] ∨ q = [] then [] else mulP p q)) := by
  by_cases hz : p = [] ∨ q = []
  · refine ⟨1, fun k hk => ?_⟩
    obtain ⟨k, rfl⟩ : ∃ m, k = m + 1 := ⟨k - 1, by omega⟩
    rw [if_pos hz]
    unfold spec_l05Times.f
    rcases hz with rfl | rfl
    · rw [if_pos (by simp [nl])]; simp only [spec_l05Times.j0]; rw [if_pos trivial]; rfl
    · have h0 : (((nl []).length : Int) == 0) = true := by simp [nl]
      rw [h0]
      simp only [ite_self, spec_l05Times.j0]
      rw [if_pos trivial]; rfl
  · have hp0 : p.length ≠ 0 := fun e => hz (.inl (List.eq_nil_of_length_eq_zero e))
    have hq0 : q.length ≠ 0 := fun e => hz (.inr (List.eq_nil_of_length_eq_zero e))
    obtain ⟨K, h⟩ := st_rows p q hp hq lp lq p.length 0 (List.replicate (p.length + q.length - 1) 0) (by omega) (by simp) (small_zeros _)
    rw [List.drop_zero] at h
    refine ⟨K + 1, fun k hk => ?_⟩
    obtain ⟨k, rfl⟩ : ∃ m, k = m + 1 := ⟨k - 1, by omega⟩
    have w : wrap64 (wrap64 ((p.length : Int) + (q.length : Int)) - 1) = ((p.length + q.length - 1 : Nat) : Int) := by unfold wrap64; omega
    have hd : ((q.length : Int) == 0) = false := beq_eq_false_iff_ne.mpr (by omega)
    unfold spec_l05Times.f
    rw [nl_length, nl_length, if_neg (by omega), hd]
    simp only [spec_l05Times.j0]
    rw [if_neg (by decide), nl_length, nl_length, w, if_pos (by omega), Int.toNat_natCast, if_pos (by omega), nl_replicate, if_neg hz]
    exact h k (by omega)
theorem it_row (p q : List Nat) (hp : small p) (hq : small q) (lp : p.length ≤ 1048576) (lq : q.length ≤ 1048576) (i : Nat) (hi : i < p.length) (r : List Int) : ∀ (d j : Nat) (X : List Nat), j + d = q.length → X.length = p.length + q.length - 1 → small X →
    Ev (fun k => impl_Poly_times.l0 k (nl q) (nl (row (p.getD i 0) (q.drop j) (i + j) X)) (nl p) (p.length : Int) ((i + 1 : Nat) : Int)) r →
    Ev (fun k => impl_Poly_times.l1 k (nl q) (nl X) (i : Int) ((p.getD i 0 : Nat) : Int) (nl p) (p.length : Int) (i : Int) (nl q) (q.length : Int) (j : Int)) r := by
  intro d
  induction d with
  | zero =>
    intro j X hj hX hs h
    rw [List.drop_eq_nil_of_le (by omega)] at h
    refine Ev.step (fun k => ?_) h
    simp only [impl_Poly_times.l1]
    rw [if_neg (by omega), w64s (by omega)]
    rfl
  | succ d ih =>
    intro j X hj hX hs h
    rw [drop_cons_getD (show j < q.length by omega)] at h
    have lt := nm4_lt (p.getD i 0) (q.getD j 0)
    have ls := small_getD hs (i + j)
    have e := ih (j + 1) (X.set (i + j) (X.getD (i + j) 0 ^^^ nm 4 (p.getD i 0) (q.getD j 0))) (by omega) (by rw [List.length_set]; exact hX) (small_set hs _ (Nat.xor_lt_two_pow (n := 16) ls lt)) h
    refine Ev.step (f := fun k => impl_Poly_times.l1 k (nl q) (nl (X.set (i + j) (X.getD (i + j) 0 ^^^ nm 4 (p.getD i 0) (q.getD j 0)))) (i : Int) ((p.getD i 0 : Nat) : Int) (nl p) (p.length : Int) (i : Int) (nl q) (q.length : Int) ((j + 1 : Nat) : Int)) (fun k => ?_) e
    simp only [impl_Poly_times.l1]
    rw [nl_length, nl_length, if_pos (by omega), if_pos (by omega), if_pos (by omega), w64n (by omega), if_pos (by omega), if_pos (by omega), rd_nat, rd_nat, nl_getD, nl_getD,
      it (small_getD hp i) (small_getD hq j), Option.bind_some, xor16 ls lt, Int.toNat_natCast, nl_set, w64s (by omega)]
theorem it_rows (p q : List Nat) (hp : small p) (hq : small q) (lp : p.length ≤ 1048576) (lq : q.length ≤ 1048576) : ∀ (d i : Nat) (X : List Nat), i + d = p.length → X.length = p.length + q.length - 1 → small X →
    Ev (fun k => impl_Poly_times.l0 k (nl q) (nl X) (nl p) (p.length : Int) (i : Int)) (trimL (nl (mulr q (p.drop i) i X))) := by
  intro d
  induction d with
  | zero =>
    intro i X hi hX hs
    rw [List.drop_eq_nil_of_le (by omega)]
    refine Ev.step (f := fun _ => some (trimL (nl X))) (fun k => ?_) (Ev.now _)
    simp only [impl_Poly_times.l0]
    rw [if_neg (by omega), itrim _ (by rw [nl_length]; omega), Option.bind_some]
  | succ d ih =>
    intro i X hi hX hs
    rw [drop_cons_getD (show i < p.length by omega)]
    have e := ih (i + 1) (row (p.getD i 0) q i X) (by omega) (by rw [row_length]; exact hX) (row_small _ _ _ _ hs)
    have e2 := it_row p q hp hq lp lq i (by omega) _ q.length 0 X (by omega) hX hs (by rw [List.drop_zero, Nat.add_zero]; exact e)
    refine Ev.step (f := fun k => impl_Poly_times.l1 k (nl q) (nl X) (i : Int) ((p.getD i 0 : Nat) : Int) (nl p) (p.length : Int) (i : Int) (nl q) (q.length : Int) 0) (fun k => ?_) e2
    simp only [impl_Poly_times.l0]
    rw [nl_length, nl_length, if_pos (by omega), if_pos (by omega), if_pos (by omega), rd_nat, nl_getD]
theorem itimes_ev (p q : List Nat) (hp : small p) (hq : small q) (lp : p.length ≤ 1048576) (lq : q.length ≤ 1048576) : ∃ K, ∀ k, K ≤ k → impl_Poly_times.f k (nl p) (nl q) = some (if p = [] ∨ q = [] then [] else trimL (nl (mulP p q))) := by
  by_cases hz : p = [] ∨ q = []
  · refine ⟨1, fun k hk => ?_⟩
    obtain ⟨k, rfl⟩ : ∃ m, k = m + 1 := ⟨k - 1, by omega⟩
    rw [if_pos hz]
    unfold impl_Poly_times.f
    rcases hz with rfl | rfl
    · rw [if_pos (by simp [nl])]; simp only [impl_Poly_times.j0]; rw [if_pos trivial]
    · have h0 : (((nl []).length : Int) == 0) = true := by simp [nl]
      rw [h0]
      simp only [ite_self, impl_Poly_times.j0]
      rw [if_pos trivial]
  · have hp0 : p.length ≠ 0 := fun e => hz (.inl (List.eq_nil_of_length_eq_zero e))
    have hq0 : q.length ≠ 0 := fun e => hz (.inr (List.eq_nil_of_length_eq_zero e))
    obtain ⟨K, h⟩ := it_rows p q hp hq lp lq p.length 0 (List.replicate (p.length + q.length - 1) 0) (by omega) (by simp) (small_zeros _)
    rw [List.drop_zero] at h
    refine ⟨K + 1, fun k hk => ?_⟩
    obtain ⟨k, rfl⟩ : ∃ m, k = m + 1 := ⟨k - 1, by omega⟩
    have w : wrap64 (wrap64 ((p.length : Int) + (q.length : Int)) - 1) = ((p.length + q.length - 1 : Nat) : Int) := by unfold wrap64; omega
    have hd : ((q.length : Int) == 0) = false := beq_eq_false_iff_ne.mpr (by omega)
    unfold impl_Poly_times.f
    rw [nl_length, nl_length, if_neg (by omega), hd]
    simp only [impl_Poly_times.j0]
    rw [if_neg (by decide), nl_length, nl_length, w, if_pos (by omega), Int.toNat_natCast, if_pos (by omega), nl_replicate, if_neg hz]
    exact h k (by omega)
/-- a list without zeros at its end is left as it is -/
theorem trimL_id {X : List Nat} (h : X ≠ []) (hl : X.getD (X.length - 1) 0 ≠ 0) : trimL (nl X) = nl X := by
  have hp : 0 < X.length := List.length_pos_iff.2 h
  unfold trimL
  obtain ⟨n, hn⟩ : ∃ n, X.length = n + 1 := ⟨X.length - 1, by omega⟩
  rw [nl_length, hn, trimN_succ, nl_getD, if_neg (by rw [hn] at hl; simp only [Nat.add_sub_cancel] at hl; omega), List.take_of_length_le (by rw [nl_length]; omega)]
theorem mul_trim (p q : List Nat) (hp : small p) (hq : small q) (p0 : p ≠ []) (q0 : q ≠ []) (pl : p.getD (p.length - 1) 0 ≠ 0) (ql : q.getD (q.length - 1) 0 ≠ 0) : trimL (nl (mulP p q)) = nl (mulP p q) ∧ mulP p q ≠ [] ∧ (mulP p q).getD ((mulP p q).length - 1) 0 = nm 4 (p.getD (p.length - 1) 0) (q.getD (q.length - 1) 0) := by
  have h1 : 0 < p.length := List.length_pos_iff.2 p0
  have h2 : 0 < q.length := List.length_pos_iff.2 q0
  have hn : mulP p q ≠ [] := by
    intro e
    have := congrArg List.length e
    rw [mulP_length, List.length_nil] at this
    omega
  have hlast : (mulP p q).getD ((mulP p q).length - 1) 0 = nm 4 (p.getD (p.length - 1) 0) (q.getD (q.length - 1) 0) := by
    rw [mulP_length, show p.length + q.length - 1 - 1 = p.length + q.length - 2 by omega, mulP_last p q p0 q0]
  refine ⟨trimL_id hn ?_, hn, hlast⟩
  rw [hlast]
  have := nm4_ne_zero (a := p.getD (p.length - 1) 0) (b := q.getD (q.length - 1) 0) (by omega) (small_getD hp _) (by omega) (small_getD hq _)
  omega

theorem tp_same (a b : List Int) (wa : ∀ x ∈ a, (Lit.int .u16 x).wf = true) (wb : ∀ x ∈ b, (Lit.int .u16 x).wf = true) (hla : a.length ≤ 1048576) (hlb : b.length ≤ 1048576) : ∃ K, ∃ r : List Int, ∃ c : Int, r.length ≤ 1048576 ∧ ∀ k, K ≤ k → spec_TimesPoly.f k a b = some (r, c) ∧ impl_TimesPoly.f k a b = some (r, c) := by
  have hv : ∀ l, vpol l = vpoly l := fun _ => rfl
  unfold spec_TimesPoly.f impl_TimesPoly.f spec_l05Both.f
  simp only [spec_ok a hla, spec_ok b hlb, Option.bind_some, if_pos (And.intro hla hlb), hv]
  cases ea : vpoly a with
  | false => exact ⟨0, [], 1, by simp, fun k _ => by simp⟩
  | true =>
    cases eb : vpoly b with
    | false => exact ⟨0, [], 1, by simp, fun k _ => by simp⟩
    | true =>
      obtain ⟨X, rfl, hX⟩ := nl_of wa
      obtain ⟨Y, rfl, hY⟩ := nl_of wb
      obtain ⟨x21, xl⟩ := vpoly_nl ea
      obtain ⟨y21, yl⟩ := vpoly_nl eb
      obtain ⟨K1, h1⟩ := stimes_ev X Y hX hY (by omega) (by omega)
      obtain ⟨K2, h2⟩ := itimes_ev X Y hX hY (by omega) (by omega)
      simp only [Bool.and_self, if_true, nl_length]
      by_cases hz : X = [] ∨ Y = []
      · rw [if_pos hz] at h1 h2
        have hn : ¬ (0 < X.length ∧ 0 < Y.length ∧ 22 < X.length + Y.length) := by
          rintro ⟨p1, p2, _⟩
          rcases hz with e | e
          · rw [e] at p1; simp at p1
          · rw [e] at p2; simp at p2
        refine ⟨K1 + K2, [], 0, by simp, fun k hk => ⟨?_, ?_⟩⟩
        · rw [h1 k (by omega), Option.bind_some]
          rfl
        · rw [if_neg hn, h2 k (by omega), Option.bind_some]
      · have x0 : X ≠ [] := fun e => hz (.inl e)
        have y0 : Y ≠ [] := fun e => hz (.inr e)
        have px : 0 < X.length := List.length_pos_iff.mpr x0
        have py : 0 < Y.length := List.length_pos_iff.mpr y0
        rw [if_neg hz] at h1 h2
        rw [(mul_trim X Y hX hY x0 y0 (xl x0) (yl y0)).1] at h2
        have hlen : (nl (mulP X Y)).length = X.length + Y.length - 1 := by rw [nl_length, mulP_length]
        by_cases hbig : 22 < X.length + Y.length
        · refine ⟨K1 + K2, [], 3, by simp, fun k hk => ⟨?_, ?_⟩⟩
          · have hg : ((nl (mulP X Y)).length : Int) > 21 := by omega
            simp only [h1 k (by omega), Option.bind_some, if_pos hg, if_true]
          · rw [if_pos ⟨px, py, hbig⟩]
        · refine ⟨K1 + K2, nl (mulP X Y), 0, by omega, fun k hk => ⟨?_, ?_⟩⟩
          · have hg : ¬ ((nl (mulP X Y)).length : Int) > 21 := by omega
            simp only [h1 k (by omega), Option.bind_some, if_neg hg, if_true]
          · rw [if_neg (fun e => hbig e.2.2), h2 k (by omega), Option.bind_some]

theorem FnExactTimesPoly : laws_FnExactTimesPoly.Pure := by
  intro a b _ _ wa _ _ wb
  by_cases ha : (a.length : Int) > 1048576
  · exact ⟨0, by unfold laws_FnExactTimesPoly.f; rw [if_pos ha]⟩
  by_cases hb : (b.length : Int) > 1048576
  · exact ⟨0, by unfold laws_FnExactTimesPoly.f; rw [if_neg ha, if_pos hb]⟩
  have hla : a.length ≤ 1048576 := by omega
  have hlb : b.length ≤ 1048576 := by omega
  obtain ⟨K1, h1⟩ := toPoly_ev a hla
  obtain ⟨K2, h2⟩ := toPoly_ev b hlb
  obtain ⟨K3, h3⟩ := eqPoly_ev a hla
  obtain ⟨K4, h4⟩ := eqPoly_ev b hlb
  obtain ⟨K5, r, c, hr, h5⟩ := tp_same a b wa wb hla hlb
  obtain ⟨K6, h6⟩ := eqPoly_ev r hr
  obtain ⟨K7, h7⟩ := markPoly_ev a 1 (by omega) (by omega)
  obtain ⟨K8, h8⟩ := markPoly_ev b (1 + (a.length : Int)) (by omega) (by omega)
  obtain ⟨K9, h9⟩ := markPoly_ev r 1 (by omega) (by omega)
  obtain ⟨K10, h10⟩ := heldPoly_ev r.length 1 (by omega) (by omega)
  obtain ⟨K, hK⟩ : ∃ K, K = K1 + K2 + K3 + K4 + K5 + K6 + K7 + K8 + K9 + K10 := ⟨_, rfl⟩
  have n1 : ¬ (1 + (a.length : Int) + (b.length : Int) < 0) := by omega
  have n2 : ¬ (1 + (r.length : Int) < 0) := by omega
  refine ⟨K + 3, ?_⟩
  unfold laws_FnExactTimesPoly.f
  rw [if_neg ha, if_neg hb]
  simp only [Option.bind_some, h1 (K + 3) (by omega), h2 (K + 3) (by omega), (h5 (K + 3) (by omega)).1, (h5 (K + 3) (by omega)).2, h6 (K + 3) (by omega), if_true, bne_self_eq_false, laws_FnExactTimesPoly.j0,
    h1 (K + 2) (by omega), h2 (K + 2) (by omega), h3 (K + 2) (by omega), h4 (K + 2) (by omega), h7 (K + 2) (by omega), h8 (K + 2) (by omega), n1, if_false, h6 (K + 2) (by omega), laws_FnExactTimesPoly.j1,
    h9 (K + 1) (by omega), h10 (K + 1) (by omega), n2, h1 (K + 1) (by omega), h2 (K + 1) (by omega), (h5 (K + 1) (by omega)).2, h6 (K + 1) (by omega), laws_FnExactTimesPoly.j2, h10 K (by omega), Bool.false_eq_true]

end Go.Proofs.Ytkmpdnnifohifaa.Pure
