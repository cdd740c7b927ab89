/- ValidCircuit answers as the reference for all arguments, as a statement on numbers and lists alone. -/
import Derived.Test.YthjbeglmdifhdaaRFnExactValidCircuitx2
import Derived.Test.YthjbeglmdifhdaaN1
namespace Go.Proofs.Ythjbeglmdifhdaa.Pure
open Go.RowKit Go.Proofs.Ythjbeglmdifhdaa.RFnExactValidCircuit Go.Proofs.YthjbeglmdifhdaaW.PrintWords Go.Proofs.YthjbeglmdifhdaaW.PrintLast Go.Proofs.YthjbeglmdifhdaaW.PrintMore Go.Proofs.Ythjbeglmdifhdaa.NimF Go.Proofs.Ythjbeglmdifhdaa.NimGo Go.Proofs.Ythjbeglmdifhdaa.Given
/-- a gate of the statement's as one of the program's -/
def cg (x : S118) : S96 := ⟨x.f0, x.f1, x.f2⟩
theorem rdT118 (xs : List S118) (i : Nat) : rd_T118 xs (i : Int) = xs.getD i z118 := by simp [rd_T118]
theorem rdT96 (xs : List S96) (i : Nat) : rd_T96 xs (i : Int) = xs.getD i z96 := by simp [rd_T96]
theorem takeG_set_succ {α : Type} {x a : List α} {i : Nat} {v : α} (hi : i < x.length) (ht : x.take i = a.take i) (hv : a[i]? = some v) : (x.set i v).take (i + 1) = a.take (i + 1) := by
  apply List.ext_getElem?
  intro j
  have hj := congrArg (fun l => l[j]?) ht
  simp only [List.getElem?_take] at hj
  simp only [List.getElem?_take, List.getElem?_set]
  by_cases h1 : j < i
  · have h2 : j < i + 1 := by omega
    have h3 : ¬ i = j := by omega
    simp only [h1, if_true] at hj
    simp only [h2, h3, if_true, if_false]; exact hj
  · by_cases h2 : j = i
    · subst h2
      simp [hi, hv]
    · have h3 : ¬ j < i + 1 := by omega
      simp [h3]
theorem toG_loop (l : List S118) (hl : l.length ≤ 1048576) : ∀ d i (x : List S96), i + d = l.length → x.length = l.length → x.take i = (l.map cg).take i → Ev (fun k => laws_toGateS.l0 k l x (i : Int)) (l.map cg) := by
  intro d
  induction d with
  | zero =>
    intro i x hi hlx ht
    have hxa : x = l.map cg := by
      rw [List.take_of_length_le (by omega), List.take_of_length_le (by rw [List.length_map]; omega)] at ht; exact ht
    subst hxa
    exact Ev.step (f := fun _ => some (l.map cg)) (fun k => by simp only [laws_toGateS.l0]; rw [if_neg (by omega)]) (Ev.now _)
  | succ d ih =>
    intro i x hi hlx ht
    have hlt : i < l.length := by omega
    have hv : (l.map cg)[i]? = some (cg (l.getD i z118)) := by simp [List.getD, hlt]
    refine Ev.step (f := fun k => laws_toGateS.l0 k l (x.set i (cg (l.getD i z118))) ((i + 1 : Nat) : Int)) (fun k => ?_) (ih (i + 1) _ (by omega) (by simpa using hlx) (takeG_set_succ (by omega) ht hv))
    simp only [laws_toGateS.l0, laws_toGate.f]
    rw [if_pos (by omega), if_pos (by omega), Option.bind_some, if_pos (by omega), rdT118, w64s (by omega), Int.toNat_natCast]
    rfl
theorem toG_ev (l : List S118) (hl : l.length ≤ 1048576) : Ev (fun k => laws_toGateS.f k l) (l.map cg) := by
  have e := toG_loop l hl l.length 0 (List.replicate ((l.length : Int) : Int).toNat z96) (by omega) (by simp) (by simp)
  exact Ev.congr (fun k => by unfold laws_toGateS.f; rw [if_pos (by omega), if_pos (by omega)]; rfl) e
theorem toO_ev (l : List Int) (h : l.length ≤ 1048576) : Ev (fun k => laws_toInt16S.f k l) l :=
  to_ev (fun _ _ => rfl) (fun _ _ _ _ => rfl) l (by omega)
theorem toC_ev (a0 : Int) (l1 : List S118) (l2 : List Int) (h1 : l1.length ≤ 1048576) (h2 : l2.length ≤ 1048576) : Ev (fun k => laws_toCircuit.f k a0 l1 l2) (a0, l1.map cg, l2) := by
  unfold laws_toCircuit.f
  exact Ev.bind (toG_ev l1 h1) (Ev.bind (toO_ev l2 h2) (Ev.now _))
theorem eqG_loop (l : List S96) (hl : l.length ≤ 1048576) : ∀ d i, i + d = l.length → Ev (fun k => laws_eqGateS.l0 k l l (i : Int)) true := by
  intro d
  induction d with
  | zero =>
    intro i hi
    exact Ev.step (f := fun _ => some true) (fun k => by simp only [laws_eqGateS.l0]; rw [if_neg (by omega)]) (Ev.now _)
  | succ d ih =>
    intro i hi
    refine Ev.step (f := fun k => laws_eqGateS.l0 k l l ((i + 1 : Nat) : Int)) (fun k => ?_) (ih (i + 1) (by omega))
    simp only [laws_eqGateS.l0, laws_eqGate.f]
    rw [if_pos (by omega), if_pos (by omega), if_pos (by omega)]
    simp only [if_true, Option.bind_some]
    rw [w64s (by omega)]
theorem eqC_ev (a0 : Int) (l1 : List S96) (l2 : List Int) (h1 : l1.length ≤ 1048576) (h2 : l2.length ≤ 1048576) : Ev (fun k => laws_eqCircuit.f k a0 l1 l2 a0 l1 l2) true := by
  have e1 : Ev (fun k => laws_eqGateS.f k l1 l1) true := Ev.congr (fun k => by unfold laws_eqGateS.f; rw [if_pos rfl]; rfl) (eqG_loop l1 h1 l1.length 0 (by omega))
  have e2 : Ev (fun k => laws_eqInt16S.f k l2 l2) true := eq_refl_ev (fun _ _ _ => rfl) (fun _ _ _ _ => rfl) l2 (by omega)
  refine Ev.congr (fun k => by unfold laws_eqCircuit.f; rw [if_pos rfl]) (Ev.bind e1 (Ev.congr (fun k => by rw [if_pos rfl]) (Ev.bind (f := fun _ t => if t = true then some true else some false) e2 (Ev.now true))))
theorem szC (a0 : Int) (l1 : List S118) (l2 : List Int) (n : Nat) (hn : n ≤ 1048576) (h1 : l1.length ≤ 9223372036854775807) (h2 : l2.length ≤ 9223372036854775807) :
    ∃ v : Int, laws_szCircuit.f a0 l1 l2 (n : Int) = some v ∧ (v = -1 ∨ ∃ m : Nat, m ≤ n ∧ v = (m : Int) ∧ l1.length ≤ n ∧ l2.length ≤ n) := by
  have w1 : wrap64 ((n : Int) - (l1.length : Int)) = (n : Int) - (l1.length : Int) := by unfold wrap64; omega
  unfold laws_szCircuit.f laws_szGateS.f
  rw [w1]
  by_cases c1 : (n : Int) - (l1.length : Int) < 0
  · exact ⟨-1, by rw [if_pos c1]; rfl, .inl rfl⟩
  · rw [if_neg c1, Option.bind_some, if_neg c1]
    have w2 : wrap64 ((n : Int) - (l1.length : Int) - (l2.length : Int)) = (n : Int) - (l1.length : Int) - (l2.length : Int) := by unfold wrap64; omega
    unfold laws_szInt16S.f
    rw [w2]
    by_cases c2 : (n : Int) - (l1.length : Int) - (l2.length : Int) < 0
    · exact ⟨-1, by rw [if_pos c2]; rfl, .inl rfl⟩
    · exact ⟨(n : Int) - (l1.length : Int) - (l2.length : Int), by rw [if_neg c2, Option.bind_some, if_neg c2], .inr ⟨n - l1.length - l2.length, by omega, by omega, by omega, by omega⟩⟩

theorem FnExactValidCircuit (a0 : Int) (l1 : List S118) (l2 : List Int) (h1 : l1.length ≤ maxLen) (h2 : l2.length ≤ maxLen) : ∃ k, laws_FnExactValidCircuit.f k a0 l1 l2 = some true := by
  have hmx : maxLen ≤ 9223372036854775807 := by decide
  refine Ev.rounds (g := fun k => laws_FnExactValidCircuit.f k a0 l1 l2) ?_
  obtain ⟨v, hv, ov⟩ := szC a0 l1 l2 1048576 (by omega) (by omega) (by omega)
  have hv' : laws_szCircuit.f a0 l1 l2 1048576 = some v := hv
  rcases ov with rfl | ⟨n, hn, rfl, k1, k2⟩
  · exact Ev.congr (fun k => by unfold laws_FnExactValidCircuit.f; rw [hv', Option.bind_some, if_pos (by omega)]) (Ev.now true)
  · have ea := toC_ev a0 l1 l2 (by omega) (by omega)
    have ec := eqC_ev a0 (l1.map cg) l2 (by rw [List.length_map]; omega) (by omega)
    have es : Ev (fun _ : Nat => spec_ValidCircuit.f a0 (l1.map cg) l2) (cOk a0 ((l1.map cg).map cvG) l2) := ⟨0, fun _ _ => rfl⟩
    have ei : Ev (fun _ : Nat => impl_ValidCircuit.f a0 (l1.map cg) l2) (cOk a0 ((l1.map cg).map cvG) l2) := ⟨0, fun _ _ => rfl⟩
    refine Ev.congr (fun k => by unfold laws_FnExactValidCircuit.f; rw [hv', Option.bind_some, if_neg (by omega)]) (Ev.bind ea (Ev.bind es (Ev.bind ea (Ev.bind ei ?_))))
    refine Ev.congr (fun k => by rw [if_neg (by simp)]) (Ev.bind ea (Ev.bind (f := fun _ t => if t = true then some true else some false) ec (Ev.now true)))

end Go.Proofs.Ythjbeglmdifhdaa.Pure
