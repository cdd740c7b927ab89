/- The law FnExactPlusPoly returns true for all arguments, as a statement on numbers and lists alone. -/
import Derived.Test.YtkmpdnnifohifaaRFnExactPlusPolyx3
import Derived.Test.YtkmpdnnifohifaaN1
namespace Go.Proofs.Ytkmpdnnifohifaa.Pure
open Go.RowKit Go.Proofs.Ytkmpdnnifohifaa.RFnExactPlusPoly Go.Proofs.YtkmpdnnifohifaaW.PrintWords Go.Proofs.YtkmpdnnifohifaaW.PrintLast Go.Proofs.YtkmpdnnifohifaaW.PrintMore Go.Proofs.Ytkmpdnnifohifaa.NimF Go.Proofs.Ytkmpdnnifohifaa.NimGo Go.Proofs.Ytkmpdnnifohifaa.Given
theorem toPoly_ev (l : List Int) (h : l.length ≤ 1048576) : ∃ K, ∀ k, K ≤ k → laws_toPoly.f k l = some l :=
  to_ev (fun _ _ => rfl) (fun _ _ _ _ => rfl) l (by omega)
theorem eqPoly_ev (l : List Int) (h : l.length ≤ 1048576) : ∃ K, ∀ k, K ≤ k → laws_eqPoly.f k l l = some true :=
  eq_refl_ev (fun _ _ _ => rfl) (fun _ _ _ _ => rfl) l (by omega)

theorem markPoly_ev (l : List Int) (c : Int) (h0 : 0 ≤ c) (h : c + (l.length : Int) ≤ 4611686018427387900) : ∃ K, ∀ k, K ≤ k → laws_markPoly.f k l c = some (c + (l.length : Int), marks .u16 c l.length) :=
  mark_ev (fun _ _ _ => rfl) (fun _ _ _ _ => rfl) l c h0 h
theorem heldPoly_ev (n : Nat) (c : Int) (h0 : 0 ≤ c) (h : c + (n : Int) ≤ 4611686018427387900) : ∃ K, ∀ k, K ≤ k → laws_heldPoly.f k (marks .u16 c n) c = some (c + (n : Int)) :=
  held_ev (fun _ _ _ => rfl) (fun _ _ _ _ => rfl) n c h0 h

def vpoly (l : List Int) : Bool := l.length == 0 || (decide (l.length ≤ 21) && l.getD (l.length - 1) 0 != 0)
theorem last_rd (l : List Int) (h : l.length ≠ 0) (h2 : l.length ≤ 1048576) : wrap64 ((l.length : Int) - 1) = ((l.length - 1 : Nat) : Int) := by
  unfold wrap64; omega
theorem spec_ok (l : List Int) (h : l.length ≤ 1048576) : spec_l05Ok.f l = some (vpoly l) := by
  unfold spec_l05Ok.f vpoly
  by_cases h0 : l.length = 0
  · rw [if_pos (by omega), h0]; rfl
  · rw [if_neg (by omega)]
    have hb : (l.length == 0) = false := by simpa using h0
    by_cases h21 : l.length ≤ 21
    · rw [if_pos (by omega), last_rd l h0 h, if_pos (by omega), if_pos (by omega), rd_nat, hb, decide_eq_true h21]; rfl
    · rw [if_neg (by omega), hb, decide_eq_false h21]; rfl

theorem strim_loop (l : List Int) (hl : l.length ≤ 2097152) : ∀ n, n ≤ l.length → Ev (fun k => spec_l05Trim.l0 k l (n : Int)) (l.take (trimN l n)) := by
  intro n
  induction n with
  | zero =>
    intro _
    refine Ev.step (f := fun _ => some []) (fun k => ?_) (Ev.now _)
    simp only [spec_l05Trim.l0]
    rw [if_neg (by omega), Option.bind_some, if_pos (by omega), if_pos (by omega), if_pos (by simp)]
    simp
  | succ n ih =>
    intro hn
    have w : wrap64 (((n + 1 : Nat) : Int) - 1) = (n : Int) := by unfold wrap64; omega
    rw [trimN_succ]
    by_cases hz : l.getD n 0 = 0
    · rw [if_pos hz]
      refine Ev.step (f := fun k => spec_l05Trim.l0 k l (n : Int)) (fun k => ?_) (ih (by omega))
      simp only [spec_l05Trim.l0]
      rw [if_pos (by omega), w, if_pos (by omega), if_pos (by omega), rd_nat, if_pos hz]
    · rw [if_neg hz]
      refine Ev.step (f := fun _ => some (l.take (n + 1))) (fun k => ?_) (Ev.now _)
      simp only [spec_l05Trim.l0]
      rw [if_pos (by omega), w, if_pos (by omega), if_pos (by omega), rd_nat, if_neg hz, Option.bind_some, if_pos (by omega), if_pos (by omega), if_pos (by rw [Int.toNat_natCast, List.length_take]; simp only [List.length_nil]; omega), Int.toNat_natCast]
      rfl
theorem strim_ev (l : List Int) (hl : l.length ≤ 2097152) : ∃ K, ∀ k, K ≤ k → spec_l05Trim.f k l = some (trimL l) := strim_loop l hl l.length (Nat.le_refl _)

theorem copy_step (a : List Int) (M i : Nat) (h : i < a.length) (hM : a.length ≤ M) : (a.take i ++ List.replicate (M - i) 0).set i (a.getD i 0) = a.take (i + 1) ++ List.replicate (M - (i + 1)) 0 := by
  have e : M - i = (M - (i + 1)) + 1 := by omega
  have hl : (a.take i).length = i := by rw [List.length_take]; omega
  rw [e, List.replicate_succ, List.set_append_right _ _ (by omega), hl, Nat.sub_self, List.set_cons_zero, List.take_add_one, List.getElem?_eq_getElem h, Option.toList_some, List.append_assoc, List.singleton_append]
  simp [List.getD, h]
theorem spl1 (b X : List Int) (hX : b.length ≤ X.length) (hl : X.length ≤ 1048576) (r : List Int) (hr : Ev (fun k => (spec_l05Trim.f k (xorN X b b.length)).bind fun t => some t) r) : ∀ (d i : Nat), i + d = b.length → Ev (fun k => spec_l05Plus.l1 k b (xorN X b i) (i : Int)) r := by
  intro d
  induction d with
  | zero =>
    intro i hi
    have : i = b.length := by omega
    subst this
    refine Ev.step (fun k => ?_) hr
    simp only [spec_l05Plus.l1]
    rw [if_neg (by omega)]
  | succ d ih =>
    intro i hi
    have e := ih (i + 1) (by omega)
    rw [xorN_succ] at e
    have hlen := xorN_length X b i
    refine Ev.step (f := fun k => spec_l05Plus.l1 k b ((xorN X b i).set i (Go.bits .xor .u16 (rd (xorN X b i) (i : Int)) (rd b (i : Int)))) ((i + 1 : Nat) : Int)) (fun k => ?_) e
    simp only [spec_l05Plus.l1]
    rw [if_pos (by omega), if_pos (by omega), if_pos (by omega), Int.toNat_natCast, w64s (by omega)]
theorem spl0 (a b : List Int) (M : Nat) (ha : a.length ≤ M) (hl : M ≤ 1048576) (r : List Int) (hr : Ev (fun k => spec_l05Plus.l1 k b (padL a M) 0) r) : ∀ (d i : Nat), i + d = a.length → Ev (fun k => spec_l05Plus.l0 k a b (a.take i ++ List.replicate (M - i) 0) (i : Int)) r := by
  intro d
  induction d with
  | zero =>
    intro i hi
    have : i = a.length := by omega
    subst this
    refine Ev.step (fun k => ?_) hr
    simp only [spec_l05Plus.l0]
    rw [if_neg (by omega), List.take_length]
    rfl
  | succ d ih =>
    intro i hi
    have e := ih (i + 1) (by omega)
    rw [← copy_step a M i (by omega) ha] at e
    refine Ev.step (f := fun k => spec_l05Plus.l0 k a b ((a.take i ++ List.replicate (M - i) 0).set i (a.getD i 0)) ((i + 1 : Nat) : Int)) (fun k => ?_) e
    simp only [spec_l05Plus.l0]
    rw [if_pos (by omega), if_pos (by omega), if_pos (by rw [List.length_append, List.length_take, List.length_replicate]; omega), Int.toNat_natCast, rd_nat, w64s (by omega)]
theorem plusR_length (a b : List Int) : (plusR a b).length = mxN a.length b.length := by
  unfold plusR
  rw [xorN_length, padL_length _ _ (mxN_le _ _).1]
theorem splus_ev (a b : List Int) (ha : a.length ≤ 1048576) (hb : b.length ≤ 1048576) : ∃ K, ∀ k, K ≤ k → spec_l05Plus.f k a b = some (trimL (plusR a b)) := by
  obtain ⟨M, hM⟩ : ∃ M, mxN a.length b.length = M := ⟨_, rfl⟩
  have g0 : a.length ≤ M := by rw [← hM]; exact (mxN_le _ _).1
  have g1 : b.length ≤ M := by rw [← hM]; exact (mxN_le _ _).2
  have gM : M ≤ 1048576 := by rw [← hM]; unfold mxN; split <;> omega
  have hp : (padL a M).length = M := padL_length _ _ g0
  have hx : plusR a b = xorN (padL a M) b b.length := by unfold plusR; rw [hM]
  obtain ⟨K0, h0⟩ := strim_ev (xorN (padL a M) b b.length) (by rw [xorN_length, hp]; omega)
  have e1 := spl1 b (padL a M) (by omega) (by omega) (trimL (plusR a b)) ⟨K0, fun k hk => by show (spec_l05Trim.f k _).bind _ = _; rw [h0 k hk, hx]; rfl⟩ b.length 0 (by omega)
  obtain ⟨K, h⟩ := spl0 a b M g0 gM (trimL (plusR a b)) e1 a.length 0 (by omega)
  refine ⟨K, fun k hk => ?_⟩
  have h' := h k hk
  simp only [List.take_zero, List.nil_append, Nat.sub_zero] at h'
  have hmax : spec_l00Max.f (a.length : Int) (b.length : Int) = some (M : Int) := by
    unfold spec_l00Max.f
    rw [← hM]; unfold mxN
    by_cases h : a.length < b.length
    · rw [if_neg (by omega), if_pos h]
    · rw [if_neg h]
      by_cases h2 : (a.length : Int) > (b.length : Int)
      · rw [if_pos h2]
      · rw [if_neg h2]; congr 1; omega
  unfold spec_l05Plus.f
  rw [hmax, Option.bind_some, if_pos (by omega), Int.toNat_natCast, if_pos (by omega)]
  exact h'
theorem pp_same (a b : List Int) (_ : ∀ x ∈ a, (Lit.int .u16 x).wf = true) (_ : ∀ x ∈ b, (Lit.int .u16 x).wf = true) (hla : a.length ≤ 1048576) (hlb : b.length ≤ 1048576) : ∃ K, ∃ r : List Int, ∃ c : Int, r.length ≤ 1048576 ∧ ∀ k, K ≤ k → spec_PlusPoly.f k a b = some (r, c) ∧ impl_PlusPoly.f a b = some (r, c) := by
  have hv : ∀ l, vpol l = vpoly l := fun _ => rfl
  unfold spec_PlusPoly.f impl_PlusPoly.f spec_l05Both.f
  simp only [spec_ok a hla, spec_ok b hlb, Option.bind_some, if_pos (And.intro hla hlb), hv]
  obtain ⟨K, h⟩ := splus_ev a b hla hlb
  have hlen : (trimL (plusR a b)).length ≤ 1048576 := by
    rw [trimL_length]
    have := trimN_le (plusR a b) (plusR a b).length
    have := plusR_length a b
    have : mxN a.length b.length ≤ 1048576 := by unfold mxN; split <;> omega
    omega
  have hcl : cloneL (trimL (plusR a b)) = some (trimL (plusR a b)) := by unfold cloneL; rw [if_pos (by omega)]
  cases ea : vpoly a with
  | false => exact ⟨0, [], 1, by simp, fun k _ => by simp⟩
  | true =>
    cases eb : vpoly b with
    | false => exact ⟨0, [], 1, by simp, fun k _ => by simp⟩
    | true => exact ⟨K, trimL (plusR a b), 0, hlen, fun k hk => by simp [h k hk, hcl]⟩

theorem FnExactPlusPoly : laws_FnExactPlusPoly.Pure := by
  intro a b _ _ wa _ _ wb
  by_cases ha : (a.length : Int) > 1048576
  · exact ⟨0, by unfold laws_FnExactPlusPoly.f; rw [if_pos ha]⟩
  by_cases hb : (b.length : Int) > 1048576
  · exact ⟨0, by unfold laws_FnExactPlusPoly.f; rw [if_neg ha, if_pos hb]⟩
  have hla : a.length ≤ 1048576 := by omega
  have hlb : b.length ≤ 1048576 := by omega
  obtain ⟨K1, h1⟩ := toPoly_ev a hla
  obtain ⟨K2, h2⟩ := toPoly_ev b hlb
  obtain ⟨K3, h3⟩ := eqPoly_ev a hla
  obtain ⟨K4, h4⟩ := eqPoly_ev b hlb
  obtain ⟨K5, r, c, hr, h5⟩ := pp_same a b wa wb hla hlb
  obtain ⟨K6, h6⟩ := eqPoly_ev r hr
  obtain ⟨K7, h7⟩ := markPoly_ev a 1 (by omega) (by omega)
  obtain ⟨K8, h8⟩ := markPoly_ev b (1 + (a.length : Int)) (by omega) (by omega)
  obtain ⟨K9, h9⟩ := markPoly_ev r 1 (by omega) (by omega)
  obtain ⟨K10, h10⟩ := heldPoly_ev r.length 1 (by omega) (by omega)
  obtain ⟨K, hK⟩ : ∃ K, K = K1 + K2 + K3 + K4 + K5 + K6 + K7 + K8 + K9 + K10 := ⟨_, rfl⟩
  have n1 : ¬ (1 + (a.length : Int) + (b.length : Int) < 0) := by omega
  have n2 : ¬ (1 + (r.length : Int) < 0) := by omega
  refine ⟨K + 3, ?_⟩
  unfold laws_FnExactPlusPoly.f
  rw [if_neg ha, if_neg hb]
  simp only [Option.bind_some, h1 (K + 3) (by omega), h2 (K + 3) (by omega), (h5 (K + 3) (by omega)).1, (h5 (K + 3) (by omega)).2, h6 (K + 3) (by omega), if_true, bne_self_eq_false, laws_FnExactPlusPoly.j0,
    h1 (K + 2) (by omega), h2 (K + 2) (by omega), h3 (K + 2) (by omega), h4 (K + 2) (by omega), h7 (K + 2) (by omega), h8 (K + 2) (by omega), n1, if_false, h6 (K + 2) (by omega), laws_FnExactPlusPoly.j1,
    h9 (K + 1) (by omega), h10 (K + 1) (by omega), n2, h1 (K + 1) (by omega), h2 (K + 1) (by omega), (h5 (K + 1) (by omega)).2, h6 (K + 1) (by omega), laws_FnExactPlusPoly.j2, h10 K (by omega), Bool.false_eq_true]

end Go.Proofs.Ytkmpdnnifohifaa.Pure
