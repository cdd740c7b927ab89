/- The law FnExactPlaceOfWord returns true for all arguments, as a statement on numbers and lists alone. -/
import Derived.Test.YtiigbilpoakgiaaRFnExactPlaceOfWordx2
import Derived.Test.YtiigbilpoakgiaaN1
namespace Go.Proofs.Ytiigbilpoakgiaa.Pure
open Go.RowKit Go.Proofs.Ytiigbilpoakgiaa.RFnExactPlaceOfWord Go.Proofs.YtiigbilpoakgiaaW.PrintWords Go.Proofs.YtiigbilpoakgiaaW.PrintLast Go.Proofs.YtiigbilpoakgiaaW.PrintMore Go.Proofs.Ytiigbilpoakgiaa.NimF Go.Proofs.Ytiigbilpoakgiaa.NimGo Go.Proofs.Ytiigbilpoakgiaa.Given
theorem toWord_ev (l : List Int) (h : l.length ≤ 1048576) : ∃ K, ∀ k, K ≤ k → laws_toWord.f k l = some l :=
  to_ev (fun _ _ => rfl) (fun _ _ _ _ => rfl) l (by omega)
theorem eqWord_ev (l : List Int) (h : l.length ≤ 1048576) : ∃ K, ∀ k, K ≤ k → laws_eqWord.f k l l = some true :=
  eq_refl_ev (fun _ _ _ => rfl) (fun _ _ _ _ => rfl) l (by omega)

def isB (b : Int) : Bool := b == 2 || b == 4 || b == 16 || b == 256
theorem sbase (b : Int) : spec_l06Base.f b = some (isB b) := by
  unfold spec_l06Base.f isB
  by_cases h2 : b = 2
  · subst h2; rfl
  by_cases h4 : b = 4
  · subst h4; rfl
  by_cases h16 : b = 16
  · subst h16; rfl
  rw [if_neg h2, if_neg h4, if_neg h16]
  have e2 : (b == 2) = false := beq_eq_false_iff_ne.mpr h2
  have e4 : (b == 4) = false := beq_eq_false_iff_ne.mpr h4
  have e16 : (b == 16) = false := beq_eq_false_iff_ne.mpr h16
  rw [e2, e4, e16]; rfl
theorem ibase (b : Int) : impl_isBase.f b = some (isB b) := sbase b
theorem isB_cases {b : Int} (h : isB b = true) : b = 2 ∨ b = 4 ∨ b = 16 ∨ b = 256 := by
  unfold isB at h
  simp only [Bool.or_eq_true, beq_iff_eq] at h
  omega
theorem sin (a b c : Int) : spec_l00In.f a b c = some (decide (b ≤ a ∧ a ≤ c)) := by
  unfold spec_l00In.f
  by_cases h : a ≥ b
  · rw [if_pos h]; congr 1; rw [Bool.eq_iff_iff]; simp only [decide_eq_true_eq]; omega
  · rw [if_neg h]; congr 1; symm; exact decide_eq_false (by omega)

def isForB (l : List Int) (b : Int) : Bool := decide (1 ≤ l.length ∧ l.length ≤ 7) && !l.any (over b)
theorem over_at {l : List Int} {b : Int} {i : Nat} (h : i < l.length) : (l.take (i + 1)).any (over b) = ((l.take i).any (over b) || over b (l.getD i 0)) := by
  rw [List.take_add_one, List.any_append, List.getElem?_eq_getElem h]; simp [List.getD, h]
theorem over_mem {l : List Int} {b : Int} {i : Nat} (h : i < l.length) (ho : over b (l.getD i 0) = true) : l.any (over b) = true :=
  List.any_eq_true.2 ⟨_, by rw [List.getD_eq_getElem?_getD, List.getElem?_eq_getElem h]; exact List.getElem_mem h, ho⟩
theorem sword_loop (l : List Int) (b : Int) (hl : l.length ≤ 1048576) : ∀ (d i : Nat), i + d = l.length → (l.take i).any (over b) = false → Ev (fun k => spec_l06Word.l0 k b l (i : Int)) (isForB l b) := by
  intro d
  induction d with
  | zero =>
    intro i hi ha
    have ei : i = l.length := by omega
    rw [ei, List.take_length] at ha
    refine Ev.step (f := fun _ => some (isForB l b)) (fun k => ?_) (Ev.now _)
    simp only [spec_l06Word.l0]
    rw [if_neg (by omega), sin, Option.bind_some]
    unfold isForB
    rw [ha]
    congr 1
    rw [Bool.not_false, Bool.and_true, decide_eq_decide]
    omega
  | succ d ih =>
    intro i hi ha
    have hlt : i < l.length := by omega
    by_cases ho : over b (l.getD i 0) = true
    · refine Ev.step (f := fun _ => some (isForB l b)) (fun k => ?_) (Ev.now _)
      simp only [spec_l06Word.l0]
      rw [if_pos (by omega), if_pos (by omega), rd_nat, if_pos (by unfold over at ho; exact of_decide_eq_true ho)]
      unfold isForB
      rw [over_mem hlt ho]
      simp
    · have h := ih (i + 1) (by omega) (by rw [over_at hlt, ha]; simpa using ho)
      refine Ev.step (f := fun k => spec_l06Word.l0 k b l ((i + 1 : Nat) : Int)) (fun k => ?_) h
      simp only [spec_l06Word.l0]
      rw [if_pos (by omega), if_pos (by omega), rd_nat, if_neg (by intro h; exact ho (by unfold over; exact decide_eq_true h)), w64s (by omega)]
theorem sword (l : List Int) (b : Int) (hl : l.length ≤ 1048576) : ∃ K, ∀ k, K ≤ k → spec_l06Word.f k b l = some (isForB l b) := by
  exact sword_loop l b hl l.length 0 (by omega) (by simp)
theorem iword (l : List Int) (b : Int) : impl_Word_isFor.f l b = some (isForB l b) := rfl

theorem place_both (l : List Int) (b : Int) (hl : l.length ≤ 1048576) : ∀ (d i : Nat) (v : Int), i + d = l.length → ∃ r : Int, Ev (fun k => spec_l06Place.l0 k b l v (i : Int)) r ∧ Ev (fun k => impl_PlaceOfWord.l0 k b v l (l.length : Int) (i : Int)) (r, 0) := by
  intro d
  induction d with
  | zero =>
    intro i v hi
    exact ⟨v, Ev.step (f := fun _ => some v) (fun k => by simp only [spec_l06Place.l0]; rw [if_neg (by omega)]) (Ev.now _),
      Ev.step (f := fun _ => some (v, 0)) (fun k => by simp only [impl_PlaceOfWord.l0]; rw [if_neg (by omega)]) (Ev.now _)⟩
  | succ d ih =>
    intro i v hi
    obtain ⟨r, h1, h2⟩ := ih (i + 1) (wrap64 ((wrap64 (v * b)) + (wrap64 (rd l (i : Int))))) (by omega)
    refine ⟨r, Ev.step (fun k => ?_) h1, Ev.step (fun k => ?_) h2⟩
    · simp only [spec_l06Place.l0]
      rw [if_pos (by omega), if_pos (by omega), w64s (by omega)]
    · simp only [impl_PlaceOfWord.l0]
      rw [if_pos (by omega), if_pos (by omega), if_pos (by omega), w64s (by omega)]
theorem FnExactPlaceOfWord : laws_FnExactPlaceOfWord.Pure := by
  intro b l _ _ _ wl
  by_cases hb : (l.length : Int) > 1048576
  · exact ⟨0, by unfold laws_FnExactPlaceOfWord.f; rw [if_pos hb]⟩
  have hl : l.length ≤ 1048576 := by omega
  obtain ⟨K1, h1⟩ := toWord_ev l hl
  obtain ⟨K2, h2⟩ := eqWord_ev l hl
  obtain ⟨K3, h3⟩ := sword l b hl
  obtain ⟨r, ⟨K4, h4⟩, ⟨K5, h5⟩⟩ := place_both l b hl l.length 0 0 (by omega)
  obtain ⟨K, hK⟩ : ∃ K, K = K1 + K2 + K3 + K4 + K5 := ⟨_, rfl⟩
  have e4 : spec_l06Place.f (K + 1) b l = some r := h4 (K + 1) (by omega)
  have e5 : impl_PlaceOfWord.l0 (K + 1) b 0 l (l.length : Int) 0 = some (r, 0) := h5 (K + 1) (by omega)
  refine ⟨K + 1, ?_⟩
  unfold laws_FnExactPlaceOfWord.f spec_PlaceOfWord.f impl_PlaceOfWord.f
  rw [if_neg hb]
  simp only [h1 (K + 1) (by omega), Option.bind_some, sbase, ibase, h3 (K + 1) (by omega), iword]
  cases hB : isB b with
  | true =>
    cases hF : isForB l b with
    | true => simp only [if_true, Option.bind_some, e4, e5, laws_FnExactPlaceOfWord.j0, bne_self_eq_false, Bool.false_eq_true, if_false, h1 K (by omega), h2 K (by omega)]
    | false => simp only [if_true, Bool.false_eq_true, if_false, Option.bind_some, laws_FnExactPlaceOfWord.j0, bne_self_eq_false, h1 K (by omega), h2 K (by omega)]
  | false => simp only [Bool.false_eq_true, if_false, Option.bind_some, if_true, laws_FnExactPlaceOfWord.j0, bne_self_eq_false, h1 K (by omega), h2 K (by omega)]

end Go.Proofs.Ytiigbilpoakgiaa.Pure
