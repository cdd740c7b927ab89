/- SameCircuit answers as the reference for all arguments, as a statement on numbers and lists alone. -/
import Derived.Test.YthjbeglmdifhdaaRFnExactSameCircuitx4
import Derived.Test.YthjbeglmdifhdaaN1
namespace Go.Proofs.Ythjbeglmdifhdaa.Pure
open Go.RowKit Go.Proofs.Ythjbeglmdifhdaa.RFnExactSameCircuit Go.Proofs.YthjbeglmdifhdaaW.PrintWords Go.Proofs.YthjbeglmdifhdaaW.PrintLast Go.Proofs.YthjbeglmdifhdaaW.PrintMore Go.Proofs.Ythjbeglmdifhdaa.NimF Go.Proofs.Ythjbeglmdifhdaa.NimGo Go.Proofs.Ythjbeglmdifhdaa.Given
/-- a gate of the statement's as one of the program's -/
def cg (x : S118) : S96 := ⟨x.f0, x.f1, x.f2⟩
theorem rdT118 (xs : List S118) (i : Nat) : rd_T118 xs (i : Int) = xs.getD i z118 := by simp [rd_T118]
theorem rdT96 (xs : List S96) (i : Nat) : rd_T96 xs (i : Int) = xs.getD i z96 := by simp [rd_T96]
theorem takeG_set_succ {α : Type} {x a : List α} {i : Nat} {v : α} (hi : i < x.length) (ht : x.take i = a.take i) (hv : a[i]? = some v) : (x.set i v).take (i + 1) = a.take (i + 1) := by
  apply List.ext_getElem?
  intro j
  have hj := congrArg (fun l => l[j]?) ht
  simp only [List.getElem?_take] at hj
  simp only [List.getElem?_take, List.getElem?_set]
  by_cases h1 : j < i
  · have h2 : j < i + 1 := by omega
    have h3 : ¬ i = j := by omega
    simp only [h1, if_true] at hj
    simp only [h2, h3, if_true, if_false]; exact hj
  · by_cases h2 : j = i
    · subst h2
      simp [hi, hv]
    · have h3 : ¬ j < i + 1 := by omega
      simp [h3]
theorem toG_loop (l : List S118) (hl : l.length ≤ 1048576) : ∀ d i (x : List S96), i + d = l.length → x.length = l.length → x.take i = (l.map cg).take i → Ev (fun k => laws_toGateS.l0 k l x (i : Int)) (l.map cg) := by
  intro d
  induction d with
  | zero =>
    intro i x hi hlx ht
    have hxa : x = l.map cg := by
      rw [List.take_of_length_le (by omega), List.take_of_length_le (by rw [List.length_map]; omega)] at ht; exact ht
    subst hxa
    exact Ev.step (f := fun _ => some (l.map cg)) (fun k => by simp only [laws_toGateS.l0]; rw [if_neg (by omega)]) (Ev.now _)
  | succ d ih =>
    intro i x hi hlx ht
    have hlt : i < l.length := by omega
    have hv : (l.map cg)[i]? = some (cg (l.getD i z118)) := by simp [List.getD, hlt]
    refine Ev.step (f := fun k => laws_toGateS.l0 k l (x.set i (cg (l.getD i z118))) ((i + 1 : Nat) : Int)) (fun k => ?_) (ih (i + 1) _ (by omega) (by simpa using hlx) (takeG_set_succ (by omega) ht hv))
    simp only [laws_toGateS.l0, laws_toGate.f]
    rw [if_pos (by omega), if_pos (by omega), Option.bind_some, if_pos (by omega), rdT118, w64s (by omega), Int.toNat_natCast]
    rfl
theorem toG_ev (l : List S118) (hl : l.length ≤ 1048576) : Ev (fun k => laws_toGateS.f k l) (l.map cg) := by
  have e := toG_loop l hl l.length 0 (List.replicate ((l.length : Int) : Int).toNat z96) (by omega) (by simp) (by simp)
  exact Ev.congr (fun k => by unfold laws_toGateS.f; rw [if_pos (by omega), if_pos (by omega)]; rfl) e
theorem toO_ev (l : List Int) (h : l.length ≤ 1048576) : Ev (fun k => laws_toInt16S.f k l) l :=
  to_ev (fun _ _ => rfl) (fun _ _ _ _ => rfl) l (by omega)
theorem toC_ev (a0 : Int) (l1 : List S118) (l2 : List Int) (h1 : l1.length ≤ 1048576) (h2 : l2.length ≤ 1048576) : Ev (fun k => laws_toCircuit.f k a0 l1 l2) (a0, l1.map cg, l2) := by
  unfold laws_toCircuit.f
  exact Ev.bind (toG_ev l1 h1) (Ev.bind (toO_ev l2 h2) (Ev.now _))
theorem eqG_loop (l : List S96) (hl : l.length ≤ 1048576) : ∀ d i, i + d = l.length → Ev (fun k => laws_eqGateS.l0 k l l (i : Int)) true := by
  intro d
  induction d with
  | zero =>
    intro i hi
    exact Ev.step (f := fun _ => some true) (fun k => by simp only [laws_eqGateS.l0]; rw [if_neg (by omega)]) (Ev.now _)
  | succ d ih =>
    intro i hi
    refine Ev.step (f := fun k => laws_eqGateS.l0 k l l ((i + 1 : Nat) : Int)) (fun k => ?_) (ih (i + 1) (by omega))
    simp only [laws_eqGateS.l0, laws_eqGate.f]
    rw [if_pos (by omega), if_pos (by omega), if_pos (by omega)]
    simp only [if_true, Option.bind_some]
    rw [w64s (by omega)]
theorem eqC_ev (a0 : Int) (l1 : List S96) (l2 : List Int) (h1 : l1.length ≤ 1048576) (h2 : l2.length ≤ 1048576) : Ev (fun k => laws_eqCircuit.f k a0 l1 l2 a0 l1 l2) true := by
  have e1 : Ev (fun k => laws_eqGateS.f k l1 l1) true := Ev.congr (fun k => by unfold laws_eqGateS.f; rw [if_pos rfl]; rfl) (eqG_loop l1 h1 l1.length 0 (by omega))
  have e2 : Ev (fun k => laws_eqInt16S.f k l2 l2) true := eq_refl_ev (fun _ _ _ => rfl) (fun _ _ _ _ => rfl) l2 (by omega)
  refine Ev.congr (fun k => by unfold laws_eqCircuit.f; rw [if_pos rfl]) (Ev.bind e1 (Ev.congr (fun k => by rw [if_pos rfl]) (Ev.bind (f := fun _ t => if t = true then some true else some false) e2 (Ev.now true))))
theorem gS_loop (l l' : List S96) (hl : l.length = l'.length) (h : l.length ≤ 1048576) : ∀ d i, i + d = l.length → gSame l l' i = true → Ev (fun k => impl_Gate.l0 k l l' (l.length : Int) (i : Int)) (gSame l l' l.length) := by
  intro d
  induction d with
  | zero =>
    intro i hi hg
    have ei : i = l.length := by omega
    subst ei
    rw [hg]
    exact Ev.step (f := fun _ => some true) (fun k => by simp only [impl_Gate.l0]; rw [if_neg (by omega)]) (Ev.now _)
  | succ d ih =>
    intro i hi hg
    have hs : gSame l l' (i + 1) = (gSame l l' i && gEq (rd_T96 l (i : Int)) (rd_T96 l' (i : Int))) := rfl
    by_cases hv : gEq (rd_T96 l (i : Int)) (rd_T96 l' (i : Int)) = true
    · refine Ev.step (f := fun k => impl_Gate.l0 k l l' (l.length : Int) ((i + 1 : Nat) : Int)) (fun k => ?_) (ih (i + 1) (by omega) (by rw [hs, hg, hv]; rfl))
      simp only [impl_Gate.l0]
      rw [if_pos (by omega), if_pos (by omega), if_pos (by omega), if_pos (by omega), if_neg, w64s (by omega)]
      rw [← Bool.not_and, ← Bool.not_and]
      unfold gEq at hv
      rw [hv]; simp
    · rw [Bool.not_eq_true] at hv
      have e : gSame l l' l.length = false := gSame_no (n := i + 1) (by rw [hs, hv, Bool.and_false]) (by omega)
      rw [e]
      refine Ev.step (f := fun _ => some false) (fun k => ?_) (Ev.now _)
      simp only [impl_Gate.l0]
      rw [if_pos (by omega), if_pos (by omega), if_pos (by omega), if_pos (by omega), if_pos]
      rw [← Bool.not_and, ← Bool.not_and]
      unfold gEq at hv
      rw [hv]; simp
theorem oS_loop (l l' : List Int) (hl : l.length = l'.length) (h : l.length ≤ 1048576) : ∀ d i, i + d = l.length → oSame l l' i = true → Ev (fun k => slices_Equal_int16_int16.l0 k l l' (l.length : Int) (i : Int)) (oSame l l' l.length) := by
  intro d
  induction d with
  | zero =>
    intro i hi hg
    have ei : i = l.length := by omega
    subst ei
    rw [hg]
    exact Ev.step (f := fun _ => some true) (fun k => by simp only [slices_Equal_int16_int16.l0]; rw [if_neg (by omega)]) (Ev.now _)
  | succ d ih =>
    intro i hi hg
    have hs : oSame l l' (i + 1) = (oSame l l' i && (rd l (i : Int) == rd l' (i : Int))) := rfl
    by_cases hv : rd l (i : Int) = rd l' (i : Int)
    · refine Ev.step (f := fun k => slices_Equal_int16_int16.l0 k l l' (l.length : Int) ((i + 1 : Nat) : Int)) (fun k => ?_) (ih (i + 1) (by omega) (by rw [hs, hg, hv]; simp))
      simp only [slices_Equal_int16_int16.l0]
      rw [if_pos (by omega), if_pos (by omega), if_pos (by omega), if_pos (by omega), if_pos hv, w64s (by omega)]
    · have e : oSame l l' l.length = false := oSame_no (n := i + 1) (by rw [hs, beq_eq_false_iff_ne.mpr hv, Bool.and_false]) (by omega)
      rw [e]
      refine Ev.step (f := fun _ => some false) (fun k => ?_) (Ev.now _)
      simp only [slices_Equal_int16_int16.l0]
      rw [if_pos (by omega), if_pos (by omega), if_pos (by omega), if_pos (by omega), if_neg hv]
theorem iSame_ev (a0 : Int) (la1 : List S96) (la2 : List Int) (b0 : Int) (lb1 : List S96) (lb2 : List Int) (h1 : la1.length ≤ 1048576) (h2 : la2.length ≤ 1048576) : Ev (fun k => impl_SameCircuit.f k a0 la1 la2 b0 lb1 lb2) (cSame a0 la1 la2 b0 lb1 lb2) := by
  unfold cSame
  by_cases e0 : a0 = b0
  · rw [beq_iff_eq.mpr e0, Bool.true_and]
    by_cases e1 : la1.length = lb1.length
    · rw [beq_iff_eq.mpr e1, Bool.true_and]
      have hg : Ev (fun k => impl_Gate.f k la1 lb1) (gSame la1 lb1 la1.length) := Ev.congr (fun k => by unfold impl_Gate.f; rw [if_pos (by omega)]; rfl) (gS_loop la1 lb1 e1 h1 la1.length 0 (by omega) rfl)
      have ho : Ev (fun k => slices_Equal_int16_int16.f k la2 lb2) (la2.length == lb2.length && oSame la2 lb2 la2.length) := by
        by_cases e2 : la2.length = lb2.length
        · rw [beq_iff_eq.mpr e2, Bool.true_and]
          exact Ev.congr (fun k => by unfold slices_Equal_int16_int16.f; rw [if_pos (by omega)]; rfl) (oS_loop la2 lb2 e2 h2 la2.length 0 (by omega) rfl)
        · rw [beq_eq_false_iff_ne.mpr e2, Bool.false_and]
          exact Ev.congr (fun k => by unfold slices_Equal_int16_int16.f; rw [if_neg (by omega)]) (Ev.now false)
      refine Ev.congr (fun k => by unfold impl_SameCircuit.f; rw [if_pos e0]) (Ev.bind hg ?_)
      cases hv : gSame la1 lb1 la1.length with
      | true =>
        rw [Bool.true_and]
        refine Ev.congr (fun k => ?_) ho
        rw [if_pos rfl]
        cases slices_Equal_int16_int16.f k la2 lb2 <;> rfl
      | false =>
        rw [Bool.false_and, Bool.and_false]
        exact Ev.congr (fun k => by rw [if_neg (by simp)]) (Ev.now false)
    · rw [beq_eq_false_iff_ne.mpr e1, Bool.false_and]
      have hg : Ev (fun k => impl_Gate.f k la1 lb1) false := Ev.congr (fun k => by unfold impl_Gate.f; rw [if_neg (by omega)]) (Ev.now false)
      refine Ev.congr (fun k => by unfold impl_SameCircuit.f; rw [if_pos e0]) (Ev.bind hg ?_)
      exact Ev.congr (fun k => by rw [if_neg (by simp)]) (Ev.now false)
  · rw [beq_eq_false_iff_ne.mpr e0, Bool.false_and]
    exact Ev.congr (fun k => by unfold impl_SameCircuit.f; rw [if_neg e0]) (Ev.now false)
theorem szC (a0 : Int) (l1 : List S118) (l2 : List Int) (n : Nat) (hn : n ≤ 1048576) (h1 : l1.length ≤ 9223372036854775807) (h2 : l2.length ≤ 9223372036854775807) :
    ∃ v : Int, laws_szCircuit.f a0 l1 l2 (n : Int) = some v ∧ (v = -1 ∨ ∃ m : Nat, m ≤ n ∧ v = (m : Int) ∧ l1.length ≤ n ∧ l2.length ≤ n) := by
  have w1 : wrap64 ((n : Int) - (l1.length : Int)) = (n : Int) - (l1.length : Int) := by unfold wrap64; omega
  unfold laws_szCircuit.f laws_szGateS.f
  rw [w1]
  by_cases c1 : (n : Int) - (l1.length : Int) < 0
  · exact ⟨-1, by rw [if_pos c1]; rfl, .inl rfl⟩
  · rw [if_neg c1, Option.bind_some, if_neg c1]
    have w2 : wrap64 ((n : Int) - (l1.length : Int) - (l2.length : Int)) = (n : Int) - (l1.length : Int) - (l2.length : Int) := by unfold wrap64; omega
    unfold laws_szInt16S.f
    rw [w2]
    by_cases c2 : (n : Int) - (l1.length : Int) - (l2.length : Int) < 0
    · exact ⟨-1, by rw [if_pos c2]; rfl, .inl rfl⟩
    · exact ⟨(n : Int) - (l1.length : Int) - (l2.length : Int), by rw [if_neg c2, Option.bind_some, if_neg c2], .inr ⟨n - l1.length - l2.length, by omega, by omega, by omega, by omega⟩⟩
theorem FnExactSameCircuit (a0 : Int) (l1 : List S118) (l2 : List Int) (b0 : Int) (m1 : List S118) (m2 : List Int) (h1 : l1.length ≤ maxLen) (h2 : l2.length ≤ maxLen) (h3 : m1.length ≤ maxLen) (h4 : m2.length ≤ maxLen) : ∃ k, laws_FnExactSameCircuit.f k a0 l1 l2 b0 m1 m2 = some true := by
  have hmx : maxLen ≤ 9223372036854775807 := by decide
  refine Ev.rounds (g := fun k => laws_FnExactSameCircuit.f k a0 l1 l2 b0 m1 m2) ?_
  obtain ⟨v, hv, ov⟩ := szC a0 l1 l2 1048576 (by omega) (by omega) (by omega)
  have hv' : laws_szCircuit.f a0 l1 l2 1048576 = some v := hv
  rcases ov with rfl | ⟨n, hn, rfl, k1, k2⟩
  · exact Ev.congr (fun k => by unfold laws_FnExactSameCircuit.f; rw [hv', Option.bind_some, if_pos (by omega)]) (Ev.now true)
  · obtain ⟨u, hu, ou⟩ := szC b0 m1 m2 n hn (by omega) (by omega)
    rcases ou with rfl | ⟨m, hm, rfl, k3, k4⟩
    · exact Ev.congr (fun k => by unfold laws_FnExactSameCircuit.f; rw [hv', Option.bind_some, if_neg (by omega), hu, Option.bind_some, if_pos (by omega)]) (Ev.now true)
    · have ea := toC_ev a0 l1 l2 (by omega) (by omega)
      have eb := toC_ev b0 m1 m2 (by omega) (by omega)
      have es : Ev (fun _ : Nat => spec_SameCircuit.f a0 (l1.map cg) l2 b0 (m1.map cg) m2) (cSame a0 (l1.map cg) l2 b0 (m1.map cg) m2) := ⟨0, fun _ _ => rfl⟩
      have ei := iSame_ev a0 (l1.map cg) l2 b0 (m1.map cg) m2 (by rw [List.length_map]; omega) (by omega)
      have ec1 := eqC_ev a0 (l1.map cg) l2 (by rw [List.length_map]; omega) (by omega)
      have ec2 := eqC_ev b0 (m1.map cg) m2 (by rw [List.length_map]; omega) (by omega)
      refine Ev.congr (fun k => by unfold laws_FnExactSameCircuit.f; rw [hv', Option.bind_some, if_neg (by omega), hu, Option.bind_some, if_neg (by omega)]) (Ev.bind ea (Ev.bind eb (Ev.bind es (Ev.bind ea (Ev.bind eb (Ev.bind ei ?_))))))
      refine Ev.congr (fun k => by rw [if_neg (by simp)]) (Ev.bind ea (Ev.bind ec1 ?_))
      refine Ev.congr (fun k => by rw [if_pos rfl]) (Ev.bind eb (Ev.bind (f := fun _ t => if t = true then some true else some false) ec2 (Ev.now true)))

end Go.Proofs.Ythjbeglmdifhdaa.Pure
