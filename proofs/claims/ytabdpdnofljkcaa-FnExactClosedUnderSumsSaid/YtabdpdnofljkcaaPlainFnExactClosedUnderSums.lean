/- The law FnExactClosedUnderSums returns true for all arguments, as a statement on numbers and lists alone. -/
import Derived.Test.YtabdpdnofljkcaaRFnExactClosedUnderSumsx3
import Derived.Test.YtabdpdnofljkcaaN1
import Derived.Test.YtabdpdnofljkcaaCD
namespace Go.Proofs.Ytabdpdnofljkcaa.Pure
open Go.RowKit Go.Proofs.Ytabdpdnofljkcaa.RFnExactClosedUnderSums Go.Proofs.YtabdpdnofljkcaaW.PrintWords Go.Proofs.YtabdpdnofljkcaaW.PrintLast Go.Proofs.YtabdpdnofljkcaaW.PrintMore Go.Proofs.Ytabdpdnofljkcaa.NimF Go.Proofs.Ytabdpdnofljkcaa.NimGo Go.Proofs.Ytabdpdnofljkcaa.Given
theorem toWord_ev (l : List Int) (h : l.length ≤ 1048576) : ∃ K, ∀ k, K ≤ k → laws_toWord.f k l = some l :=
  to_ev (fun _ _ => rfl) (fun _ _ _ _ => rfl) l (by omega)
theorem eqWord_ev (l : List Int) (h : l.length ≤ 1048576) : ∃ K, ∀ k, K ≤ k → laws_eqWord.f k l l = some true :=
  eq_refl_ev (fun _ _ _ => rfl) (fun _ _ _ _ => rfl) l (by omega)

theorem rdL1 (xs : List (List Int)) (i : Nat) : rd_L1 xs (i : Int) = xs.getD i [] := by simp [rd_L1]
theorem rdL2 (xs : List (List Int)) (i : Nat) : rd_L2 xs (i : Int) = xs.getD i [] := by simp [rd_L2]
theorem getD_mem {l : List (List Int)} {i : Nat} (h : i < l.length) : l.getD i [] ∈ l := by
  have e : l.getD i [] = l[i] := by simp [List.getD, h]
  rw [e]; exact List.getElem_mem h
theorem szw (x : List Int) (n : Nat) (hn : n ≤ 1048576) (hx : x.length ≤ 9223372036854775807) : laws_szWord.f x (n : Int) = some (if n < x.length then -1 else ((n - x.length : Nat) : Int)) := by
  have w : wrap64 ((n : Int) - (x.length : Int)) = (n : Int) - (x.length : Int) := by unfold wrap64; omega
  unfold laws_szWord.f
  rw [w]
  by_cases h : n < x.length
  · rw [if_pos (by omega), if_pos h]
  · rw [if_neg (by omega), if_neg h]; congr 1; omega
theorem sz_loop (l : List (List Int)) (hl : l.length ≤ 1048576) (hx : ∀ x ∈ l, x.length ≤ 9223372036854775807) : ∀ (d i n : Nat), i + d = l.length → n ≤ 1048576 → ∃ v : Int, Ev (fun k => laws_szWordS.l0 k l (n : Int) (i : Int)) v ∧ (v < 0 ∨ ∀ j, i ≤ j → j < l.length → (l.getD j []).length ≤ 1048576) := by
  intro d
  induction d with
  | zero =>
    intro i n hi hn
    exact ⟨(n : Int), Ev.step (f := fun _ => some (n : Int)) (fun k => by simp only [laws_szWordS.l0]; rw [if_neg (by omega)]) (Ev.now _), .inr (fun j h1 h2 => absurd h2 (by omega))⟩
  | succ d ih =>
    intro i n hi hn
    have hxi := hx _ (getD_mem (show i < l.length by omega))
    by_cases h : n < (l.getD i []).length
    · refine ⟨-1, Ev.step (f := fun _ => some (-1)) (fun k => ?_) (Ev.now _), .inl (by omega)⟩
      simp only [laws_szWordS.l0]
      rw [if_pos (by omega), if_pos (by omega), rdL1, szw _ _ hn hxi, if_pos h, Option.bind_some, if_pos (by omega)]
    · obtain ⟨v, e, hv⟩ := ih (i + 1) (n - (l.getD i []).length) (by omega) (by omega)
      refine ⟨v, Ev.step (f := fun k => laws_szWordS.l0 k l ((n - (l.getD i []).length : Nat) : Int) ((i + 1 : Nat) : Int)) (fun k => ?_) e, ?_⟩
      · simp only [laws_szWordS.l0]
        rw [if_pos (by omega), if_pos (by omega), rdL1, szw _ _ hn hxi, if_neg h, Option.bind_some, if_neg (by omega), w64s (by omega)]
      · rcases hv with hv | hv
        · exact .inl hv
        · refine .inr (fun j h1 h2 => ?_)
          by_cases hj : j = i
          · subst hj; omega
          · exact hv j (by omega) h2
theorem sz_ev (l : List (List Int)) (hl : l.length ≤ maxLen) (hx : ∀ x ∈ l, x.length ≤ maxLen) : ∃ v : Int, Ev (fun k => laws_szWordS.f k l 1048576) v ∧ (v < 0 ∨ l.length ≤ 1048576 ∧ ∀ x ∈ l, x.length ≤ 1048576) := by
  have hmx : maxLen ≤ 9223372036854775807 := by decide
  have w : wrap64 ((1048576 : Int) - (l.length : Int)) = (1048576 : Int) - (l.length : Int) := by unfold wrap64; omega
  by_cases h : 1048576 < l.length
  · exact ⟨-1, ⟨0, fun k _ => by show laws_szWordS.f k l 1048576 = _; unfold laws_szWordS.f; rw [w, if_pos (by omega)]⟩, .inl (by omega)⟩
  · obtain ⟨v, e, hv⟩ := sz_loop l (by omega) (fun x m => Nat.le_trans (hx x m) hmx) l.length 0 (1048576 - l.length) (by omega) (by omega)
    refine ⟨v, Ev.congr (fun k => ?_) e, ?_⟩
    · show laws_szWordS.f k l 1048576 = laws_szWordS.l0 k l ((1048576 - l.length : Nat) : Int) ((0 : Nat) : Int)
      unfold laws_szWordS.f
      rw [w, if_neg (by omega), show (1048576 : Int) - (l.length : Int) = ((1048576 - l.length : Nat) : Int) by omega]
      rfl
    · rcases hv with hv | hv
      · exact .inl hv
      · refine .inr ⟨by omega, fun x m => ?_⟩
        obtain ⟨j, hj, rfl⟩ := List.mem_iff_getElem.1 m
        have := hv j (by omega) hj
        simpa [List.getD, hj] using this

def isB (b : Int) : Bool := b == 2 || b == 4 || b == 16 || b == 256
theorem sbase (b : Int) : spec_l06Base.f b = some (isB b) := by
  unfold spec_l06Base.f isB
  by_cases h2 : b = 2
  · subst h2; rfl
  by_cases h4 : b = 4
  · subst h4; rfl
  by_cases h16 : b = 16
  · subst h16; rfl
  rw [if_neg h2, if_neg h4, if_neg h16]
  have e2 : (b == 2) = false := beq_eq_false_iff_ne.mpr h2
  have e4 : (b == 4) = false := beq_eq_false_iff_ne.mpr h4
  have e16 : (b == 16) = false := beq_eq_false_iff_ne.mpr h16
  rw [e2, e4, e16]; rfl
theorem isB_cases {b : Int} (h : isB b = true) : b = 2 ∨ b = 4 ∨ b = 16 ∨ b = 256 := by
  unfold isB at h
  simp only [Bool.or_eq_true, beq_iff_eq] at h
  omega
theorem sin (a b c : Int) : spec_l00In.f a b c = some (decide (b ≤ a ∧ a ≤ c)) := by
  unfold spec_l00In.f
  by_cases h : a ≥ b
  · rw [if_pos h]; congr 1; rw [Bool.eq_iff_iff]; simp only [decide_eq_true_eq]; omega
  · rw [if_neg h]; congr 1; symm; exact decide_eq_false (by omega)

def isForB (l : List Int) (b : Int) : Bool := decide (1 ≤ l.length ∧ l.length ≤ 7) && !l.any (over b)
theorem over_at {l : List Int} {b : Int} {i : Nat} (h : i < l.length) : (l.take (i + 1)).any (over b) = ((l.take i).any (over b) || over b (l.getD i 0)) := by
  rw [List.take_add_one, List.any_append, List.getElem?_eq_getElem h]; simp [List.getD, h]
theorem over_mem {l : List Int} {b : Int} {i : Nat} (h : i < l.length) (ho : over b (l.getD i 0) = true) : l.any (over b) = true :=
  List.any_eq_true.2 ⟨_, by rw [List.getD_eq_getElem?_getD, List.getElem?_eq_getElem h]; exact List.getElem_mem h, ho⟩
theorem sword_loop (l : List Int) (b : Int) (hl : l.length ≤ 1048576) : ∀ (d i : Nat), i + d = l.length → (l.take i).any (over b) = false → Ev (fun k => spec_l06Word.l0 k b l (i : Int)) (isForB l b) := by
  intro d
  induction d with
  | zero =>
    intro i hi ha
    have ei : i = l.length := by omega
    rw [ei, List.take_length] at ha
    refine Ev.step (f := fun _ => some (isForB l b)) (fun k => ?_) (Ev.now _)
    simp only [spec_l06Word.l0]
    rw [if_neg (by omega), sin, Option.bind_some]
    unfold isForB
    rw [ha]
    congr 1
    rw [Bool.not_false, Bool.and_true, decide_eq_decide]
    omega
  | succ d ih =>
    intro i hi ha
    have hlt : i < l.length := by omega
    by_cases ho : over b (l.getD i 0) = true
    · refine Ev.step (f := fun _ => some (isForB l b)) (fun k => ?_) (Ev.now _)
      simp only [spec_l06Word.l0]
      rw [if_pos (by omega), if_pos (by omega), rd_nat, if_pos (by unfold over at ho; exact of_decide_eq_true ho)]
      unfold isForB
      rw [over_mem hlt ho]
      simp
    · have h := ih (i + 1) (by omega) (by rw [over_at hlt, ha]; simpa using ho)
      refine Ev.step (f := fun k => spec_l06Word.l0 k b l ((i + 1 : Nat) : Int)) (fun k => ?_) h
      simp only [spec_l06Word.l0]
      rw [if_pos (by omega), if_pos (by omega), rd_nat, if_neg (by intro h; exact ho (by unfold over; exact decide_eq_true h)), w64s (by omega)]
theorem sword (l : List Int) (b : Int) (hl : l.length ≤ 1048576) : ∃ K, ∀ k, K ≤ k → spec_l06Word.f k b l = some (isForB l b) := by
  exact sword_loop l b hl l.length 0 (by omega) (by simp)
theorem iword (l : List Int) (b : Int) : impl_Word_isFor.f l b = some (isForB l b) := rfl

theorem takeW_set_succ {x a : List (List Int)} {i : Nat} {v : List Int} (hi : i < x.length) (ht : x.take i = a.take i) (hv : a[i]? = some v) : (x.set i v).take (i + 1) = a.take (i + 1) := by
  apply List.ext_getElem?
  intro j
  have hj := congrArg (fun l => l[j]?) ht
  simp only [List.getElem?_take] at hj
  simp only [List.getElem?_take, List.getElem?_set]
  by_cases h1 : j < i
  · have h2 : j < i + 1 := by omega
    have h3 : ¬ i = j := by omega
    simp only [h1, if_true] at hj
    simp only [h2, h3, if_true, if_false]; exact hj
  · by_cases h2 : j = i
    · subst h2
      simp [hi, hv]
    · have h3 : ¬ j < i + 1 := by omega
      simp [h3]
theorem getDW_some {a : List (List Int)} {i : Nat} (h : i < a.length) : a[i]? = some (a.getD i []) := by
  simp [List.getD, h]
theorem toWordS_loop (l : List (List Int)) (hl : l.length ≤ 1048576) (hx : ∀ x ∈ l, x.length ≤ 1048576) : ∀ d i (x : List (List Int)), i + d = l.length → x.length = l.length → x.take i = l.take i → Ev (fun k => laws_toWordS.l0 k l x (i : Int)) l := by
  intro d
  induction d with
  | zero =>
    intro i x hi hlx ht
    have hxa : x = l := by
      rw [List.take_of_length_le (by omega), List.take_of_length_le (by omega)] at ht; exact ht
    subst hxa
    exact Ev.step (f := fun _ => some x) (fun k => by simp only [laws_toWordS.l0]; rw [if_neg (by omega)]) (Ev.now _)
  | succ d ih =>
    intro i x hi hlx ht
    refine Ev.step (f := fun k => (laws_toWord.f k (l.getD i [])).bind fun t => laws_toWordS.l0 k l (x.set i t) ((i + 1 : Nat) : Int)) (fun k => ?_) (Ev.bind (toWord_ev _ (hx _ (getD_mem (by omega)))) (ih (i + 1) _ (by omega) (by simpa using hlx) (takeW_set_succ (by omega) ht (getDW_some (by omega)))))
    simp only [laws_toWordS.l0]
    rw [if_pos (by omega), if_pos (by omega), rdL1]
    congr 1
    funext t
    rw [if_pos (by omega), w64s (by omega), Int.toNat_natCast]
theorem toWordS_ev (l : List (List Int)) (hl : l.length ≤ 1048576) (hx : ∀ x ∈ l, x.length ≤ 1048576) : Ev (fun k => laws_toWordS.f k l) l := by
  have e := toWordS_loop l hl hx l.length 0 (List.replicate ((l.length : Int) : Int).toNat []) (by omega) (by simp) (by simp)
  exact Ev.congr (fun k => by unfold laws_toWordS.f; rw [if_pos (by omega), if_pos (by omega)]; rfl) e
theorem eqWordS_loop (l : List (List Int)) (hl : l.length ≤ 1048576) (hx : ∀ x ∈ l, x.length ≤ 1048576) : ∀ d i, i + d = l.length → Ev (fun k => laws_eqWordS.l0 k l l (i : Int)) true := by
  intro d
  induction d with
  | zero =>
    intro i hi
    exact Ev.step (f := fun _ => some true) (fun k => by simp only [laws_eqWordS.l0]; rw [if_neg (by omega)]) (Ev.now _)
  | succ d ih =>
    intro i hi
    refine Ev.step (f := fun k => (laws_eqWord.f k (l.getD i []) (l.getD i [])).bind fun t => if t = true then laws_eqWordS.l0 k l l ((i + 1 : Nat) : Int) else some false) (fun k => ?_) (Ev.bind (eqWord_ev _ (hx _ (getD_mem (by omega)))) (Ev.congr (fun k => by rw [if_pos rfl]) (ih (i + 1) (by omega))))
    simp only [laws_eqWordS.l0]
    rw [if_pos (by omega), if_pos (by omega), if_pos (by omega), rdL2]
    congr 1
    funext t
    rw [w64s (by omega)]
theorem eqWordS_ev (l : List (List Int)) (hl : l.length ≤ 1048576) (hx : ∀ x ∈ l, x.length ≤ 1048576) : Ev (fun k => laws_eqWordS.f k l l) true :=
  Ev.congr (fun k => by unfold laws_eqWordS.f; rw [if_pos rfl]; rfl) (eqWordS_loop l hl hx l.length 0 (by omega))
theorem allW_at {p : List Int → Bool} {l : List (List Int)} {i : Nat} (h : i < l.length) : (l.take (i + 1)).all p = ((l.take i).all p && p (l.getD i [])) := by
  rw [List.take_add_one, List.all_append, List.getElem?_eq_getElem h]; simp [List.getD, h]
theorem allW_no {p : List Int → Bool} {l : List (List Int)} {i : Nat} (h : i < l.length) (ho : p (l.getD i []) = false) : l.all p = false := by
  rw [List.all_eq_false]
  exact ⟨_, getD_mem h, by rw [ho]; simp⟩
theorem okW_eq (b : Int) (l : List (List Int)) (x : List Int) : okW b l x = (isForW x b && x.length == (l.getD 0 []).length) := rfl
theorem slisted_loop (b : Int) (l : List (List Int)) (hl : l.length ≤ 1048576) (hx : ∀ x ∈ l, x.length ≤ 1048576) : ∀ d i, i + d = l.length → (l.take i).all (okW b l) = true → Ev (fun k => spec_l06Listed.l0 k b l (i : Int)) (if l.all (okW b l) = true then (if 300 < l.length then (3 : Int) else 0) else 1) := by
  intro d
  induction d with
  | zero =>
    intro i hi ha
    rw [List.take_of_length_le (by omega)] at ha
    rw [if_pos ha]
    refine Ev.step (f := fun _ => some (if 300 < l.length then (3 : Int) else 0)) (fun k => ?_) (Ev.now _)
    simp only [spec_l06Listed.l0]
    rw [if_neg (by omega)]
    by_cases h3 : 300 < l.length
    · rw [if_pos h3, if_pos (by omega)]
    · rw [if_neg h3, if_neg (by omega)]
  | succ d ih =>
    intro i hi ha
    have hlt : i < l.length := by omega
    have hs := sword (l.getD i []) b (hx _ (getD_mem hlt))
    have e0 : ∀ k, spec_l06Listed.l0 (k + 1) b l (i : Int) = (spec_l06Word.f k b (l.getD i [])).bind fun t => if t = true then (if ((l.getD i []).length : Int) = ((l.getD 0 []).length : Int) then spec_l06Listed.l0 k b l ((i + 1 : Nat) : Int) else some 1) else some 1 := by
      intro k
      simp only [spec_l06Listed.l0]
      rw [if_pos (by omega), if_pos (by omega), rdL2]
      congr 1
      funext t
      rw [if_pos (show (0 : Int) < (l.length : Int) by omega), w64s (by omega)]
      rfl
    refine Ev.step e0 (Ev.bind hs ?_)
    have ok := okW_eq b l (l.getD i [])
    by_cases hf : isForB (l.getD i []) b = true
    · have hf' : isForW (l.getD i []) b = true := hf
      rw [hf'] at ok
      by_cases hn : (l.getD i []).length = (l.getD 0 []).length
      · have ok2 : okW b l (l.getD i []) = true := by rw [ok, hn]; simp
        exact Ev.congr (fun k => by rw [if_pos hf, if_pos (by omega)]) (ih (i + 1) (by omega) (by rw [allW_at hlt, ha, ok2]; rfl))
      · have ok2 : okW b l (l.getD i []) = false := by rw [ok]; simpa using hn
        rw [if_neg (by rw [allW_no hlt ok2]; simp)]
        exact Ev.congr (fun k => by rw [if_pos hf, if_neg (by omega)]) (Ev.now 1)
    · have hf' : isForW (l.getD i []) b = false := by rw [Bool.not_eq_true] at hf; exact hf
      have ok2 : okW b l (l.getD i []) = false := by rw [ok, hf']; rfl
      rw [if_neg (by rw [allW_no hlt ok2]; simp)]
      exact Ev.congr (fun k => by rw [if_neg hf]) (Ev.now 1)
theorem slisted (b : Int) (l : List (List Int)) (hl : l.length ≤ 1048576) (hx : ∀ x ∈ l, x.length ≤ 1048576) : Ev (fun k => spec_l06Listed.f k b l) (listW b l []) := by
  have e := slisted_loop b l hl hx l.length 0 (by omega) (by simp)
  unfold listW
  rw [List.append_nil]
  by_cases hb : isBW b = true
  · rw [if_pos hb]
    refine Ev.congr (fun k => ?_) e
    unfold spec_l06Listed.f
    rw [sbase, Option.bind_some, if_pos (show isB b = true from hb)]
    rfl
  · rw [if_neg hb]
    refine Ev.congr (fun k => ?_) (Ev.now 2)
    unfold spec_l06Listed.f
    rw [sbase, Option.bind_some, if_neg (show ¬ isB b = true from hb)]
theorem ilist (b : Int) (l l2 : List (List Int)) (hl : l.length ≤ 1048576) (hl2 : l2.length ≤ 1048576) : impl_listCode.f b l l2 = some (listW b l l2) := by
  unfold impl_listCode.f; rw [if_pos ⟨hl, hl2⟩]
/-- what a code 0 says of a list -/
theorem listW_zero {b : Int} {l l2 : List (List Int)} (h : listW b l l2 = 0) : l.length ≤ 300 ∧ (l ++ l2).all (okW b (l ++ l2)) = true := by
  unfold listW at h
  by_cases hb : isBW b = true
  · rw [if_pos hb] at h
    by_cases ha : (l ++ l2).all (okW b (l ++ l2)) = true
    · rw [if_pos ha] at h
      by_cases h3 : 300 < l.length
      · rw [if_pos h3] at h; cases h
      · exact ⟨by omega, ha⟩
    · rw [if_neg ha] at h; cases h
  · rw [if_neg hb] at h; cases h
theorem okW_mem {b : Int} {l : List (List Int)} (h : l.all (okW b l) = true) {x : List Int} (hx : x ∈ l) : x.length = (l.getD 0 []).length ∧ 1 ≤ x.length ∧ x.length ≤ 7 ∧ ∀ n ∈ x, over b n = false := by
  have := List.all_eq_true.1 h x hx
  rw [okW_eq] at this
  unfold isForW at this
  simp only [Bool.and_eq_true, decide_eq_true_eq, beq_iff_eq, Bool.not_eq_true', List.any_eq_false] at this
  exact ⟨this.2, this.1.1.1, this.1.1.2, fun n hn => by have := this.1.2 n hn; simpa using this⟩

theorem ssame_loop (a b : List Int) (hl : a.length = b.length) (h : a.length ≤ 1048576) : ∀ d i, i + d = a.length → Ev (fun k => spec_SameNims.l0 k a b (i : Int)) (decide (a.drop i = b.drop i)) := by
  intro d
  induction d with
  | zero =>
    intro i hi
    rw [List.drop_eq_nil_of_le (by omega), List.drop_eq_nil_of_le (by omega)]
    exact Ev.step (f := fun _ => some true) (fun k => by simp only [spec_SameNims.l0]; rw [if_neg (by omega)]) (Ev.now _)
  | succ d ih =>
    intro i hi
    have ha : a.drop i = a.getD i 0 :: a.drop (i + 1) := by rw [List.drop_eq_getElem_cons (by omega)]; simp [List.getD, show i < a.length by omega]
    have hb : b.drop i = b.getD i 0 :: b.drop (i + 1) := by rw [List.drop_eq_getElem_cons (by omega)]; simp [List.getD, show i < b.length by omega]
    rw [ha, hb]
    by_cases hv : a.getD i 0 = b.getD i 0
    · have e : decide (a.getD i 0 :: a.drop (i + 1) = b.getD i 0 :: b.drop (i + 1)) = decide (a.drop (i + 1) = b.drop (i + 1)) := decide_eq_decide.2 ⟨fun h => by injection h, fun h => by rw [hv, h]⟩
      rw [e]
      refine Ev.step (f := fun k => spec_SameNims.l0 k a b ((i + 1 : Nat) : Int)) (fun k => ?_) (ih (i + 1) (by omega))
      simp only [spec_SameNims.l0]
      rw [if_pos (by omega), if_pos (by omega), if_pos (by omega), rd_nat, rd_nat, if_pos hv, w64s (by omega)]
    · have e : decide (a.getD i 0 :: a.drop (i + 1) = b.getD i 0 :: b.drop (i + 1)) = false := decide_eq_false (fun h => by injection h with h _; exact hv h)
      rw [e]
      refine Ev.step (f := fun _ => some false) (fun k => ?_) (Ev.now _)
      simp only [spec_SameNims.l0]
      rw [if_pos (by omega), if_pos (by omega), if_pos (by omega), rd_nat, rd_nat, if_neg hv]
theorem ssame (a b : List Int) (h : a.length ≤ 1048576) : Ev (fun k => spec_SameWord.f k a b) (decide (a = b)) := by
  have hf : Ev (fun k => spec_SameNims.f k a b) (decide (a = b)) := by
    by_cases hl : a.length = b.length
    · have e := ssame_loop a b hl h a.length 0 (by omega)
      rw [List.drop_zero, List.drop_zero] at e
      exact Ev.congr (fun k => by unfold spec_SameNims.f; rw [if_pos (by omega)]; rfl) e
    · rw [decide_eq_false (fun h => hl (by rw [h]))]
      exact Ev.congr (fun k => by unfold spec_SameNims.f; rw [if_neg (by omega)]) (Ev.now _)
  exact Ev.congr (fun k => by unfold spec_SameWord.f; rfl) (Ev.bind hf (Ev.now _))
theorem shas_loop (l : List (List Int)) (w : List Int) (hl : l.length ≤ 1048576) (hx : ∀ x ∈ l, x.length ≤ 1048576) : ∀ d i, i + d = l.length → Ev (fun k => spec_l06Has.l0 k l w (i : Int)) (decide (w ∈ l.drop i)) := by
  intro d
  induction d with
  | zero =>
    intro i hi
    rw [List.drop_eq_nil_of_le (by omega)]
    exact Ev.step (f := fun _ => some false) (fun k => by simp only [spec_l06Has.l0]; rw [if_neg (by omega)]) (by simpa using Ev.now _)
  | succ d ih =>
    intro i hi
    have hd : l.drop i = l.getD i [] :: l.drop (i + 1) := by rw [List.drop_eq_getElem_cons (by omega)]; simp [List.getD, show i < l.length by omega]
    rw [hd]
    refine Ev.step (f := fun k => (spec_SameWord.f k (l.getD i []) w).bind fun t => if t = true then some true else spec_l06Has.l0 k l w ((i + 1 : Nat) : Int)) (fun k => ?_) (Ev.bind (ssame _ w (hx _ (getD_mem (by omega)))) ?_)
    · simp only [spec_l06Has.l0]
      rw [if_pos (by omega), if_pos (by omega), rdL2, w64s (by omega)]
    · by_cases hv : l.getD i [] = w
      · rw [decide_eq_true hv, decide_eq_true (by rw [hv]; exact List.mem_cons_self)]
        exact Ev.congr (fun k => if_pos rfl) (Ev.now _)
      · rw [decide_eq_false hv]
        have e : decide (w ∈ l.getD i [] :: l.drop (i + 1)) = decide (w ∈ l.drop (i + 1)) := decide_eq_decide.2 ⟨fun h => by rcases List.mem_cons.1 h with h1 | h1; exact absurd h1.symm hv; exact h1, fun h => List.mem_cons_of_mem _ h⟩
        rw [e]
        exact Ev.congr (fun k => if_neg (by simp)) (ih (i + 1) (by omega))
theorem shas (l : List (List Int)) (w : List Int) (hl : l.length ≤ 1048576) (hx : ∀ x ∈ l, x.length ≤ 1048576) : Ev (fun k => spec_l06Has.f k l w) (decide (w ∈ l)) := by
  have e := shas_loop l w hl hx l.length 0 (by omega)
  rw [List.drop_zero] at e
  exact e
theorem splus_loop (a b : List Int) (hl : a.length = b.length) (h7 : a.length ≤ 1048576) : ∀ (d i : Nat) (x : List Int), i + d = a.length → x.length = i → Ev (fun k => spec_l06Plus.l0 k a b x (i : Int)) (x ++ (xorl a b).drop i) := by
  intro d
  induction d with
  | zero =>
    intro i x hi hx
    rw [List.drop_eq_nil_of_le (by rw [xorl_length hl]; omega), List.append_nil]
    exact Ev.step (f := fun _ => some x) (fun k => by simp only [spec_l06Plus.l0]; rw [if_neg (by omega)]) (Ev.now _)
  | succ d ih =>
    intro i x hi hx
    have e := ih (i + 1) (x ++ [Go.bits .xor .u16 (a.getD i 0) (b.getD i 0)]) (by omega) (by simp [hx])
    rw [xorl_drop (by omega) (by omega)]
    rw [List.append_assoc, List.singleton_append] at e
    refine Ev.step (f := fun k => spec_l06Plus.l0 k a b (x ++ [Go.bits .xor .u16 (a.getD i 0) (b.getD i 0)]) ((i + 1 : Nat) : Int)) (fun k => ?_) e
    simp only [spec_l06Plus.l0]
    rw [if_pos (by omega), if_pos (by omega), if_pos (by omega), if_pos (by omega), rd_nat, rd_nat, w64s (by omega)]
theorem splus (a b : List Int) (hl : a.length = b.length) (h7 : a.length ≤ 1048576) : Ev (fun k => spec_l06Plus.f k a b) (xorl a b) := by
  have e := splus_loop a b hl h7 a.length 0 [] (by omega) rfl
  rw [List.nil_append, List.drop_zero] at e
  exact e
abbrev Sum (l : List (List Int)) (p q : Nat) : Prop := xorl (l.getD p []) (l.getD q []) ∈ l
theorem scus_row (l : List (List Int)) (hl : l.length ≤ 1048576) (m : Nat) (hm : m ≤ 1048576) (hx : ∀ x ∈ l, x.length = m) (i : Nat) (hi : i < l.length) (r : Bool) (P : Prop) (hr : Ev (fun k => spec_ClosedUnderSums.l0 k l ((i + 1 : Nat) : Int)) (r, 0)) (hP : r = true ↔ P) :
    ∀ d j, j + d = i + 1 → ∃ s : Bool, Ev (fun k => spec_ClosedUnderSums.l1 k l (i : Int) (j : Int)) (s, 0) ∧ (s = true ↔ P ∧ ∀ q, j ≤ q → q ≤ i → Sum l i q) := by
  intro d
  induction d with
  | zero =>
    intro j hj
    refine ⟨r, Ev.step (f := fun k => spec_ClosedUnderSums.l0 k l ((i + 1 : Nat) : Int)) (fun k => by simp only [spec_ClosedUnderSums.l1]; rw [if_neg (by omega), w64s (by omega)]) hr, ?_⟩
    rw [hP]
    exact ⟨fun h => ⟨h, fun q h1 h2 => by omega⟩, fun h => h.1⟩
  | succ d ih =>
    intro j hj
    obtain ⟨s, h1, h2⟩ := ih (j + 1) (by omega)
    have hxi := hx _ (getD_mem hi)
    have hxj := hx _ (getD_mem (show j < l.length by omega))
    have hstep : ∀ v : Bool × Int, Ev (fun k => if decide (xorl (l.getD i []) (l.getD j []) ∈ l) = true then spec_ClosedUnderSums.l1 k l (i : Int) ((j + 1 : Nat) : Int) else some (false, 0)) v → Ev (fun k => spec_ClosedUnderSums.l1 k l (i : Int) (j : Int)) v := fun v hv => by
      refine Ev.step (f := fun k => (spec_l06Plus.f k (l.getD i []) (l.getD j [])).bind fun t => (spec_l06Has.f k l t).bind fun u => if u = true then spec_ClosedUnderSums.l1 k l (i : Int) ((j + 1 : Nat) : Int) else some (false, 0)) (fun k => ?_) (Ev.bind (splus _ _ (by rw [hxi, hxj]) (by omega)) (Ev.bind (shas l _ hl (fun x h => by have := hx x h; omega)) hv))
      simp only [spec_ClosedUnderSums.l1]
      rw [if_pos (by omega), if_pos (by omega), if_pos (by omega), if_pos (by omega), if_pos (by omega), rdL2, rdL2, w64s (by omega)]
    by_cases hv : Sum l i j
    · refine ⟨s, hstep _ (Ev.congr (fun k => if_pos (decide_eq_true hv)) h1), ?_⟩
      rw [h2]
      exact ⟨fun h => ⟨h.1, fun q h3 h4 => by rcases Nat.lt_or_ge j q with h5 | h5; exact h.2 q h5 h4; have : q = j := by omega
                                              subst this; exact hv⟩, fun h => ⟨h.1, fun q h3 h4 => h.2 q (by omega) h4⟩⟩
    · refine ⟨false, hstep _ (Ev.congr (fun k => if_neg (by rw [decide_eq_false hv]; simp)) (Ev.now _)), ?_⟩
      exact ⟨(by intro h; cases h), fun h => absurd (h.2 j (Nat.le_refl _) (by omega)) hv⟩
theorem scus_all (l : List (List Int)) (hl : l.length ≤ 1048576) (m : Nat) (hm : m ≤ 1048576) (hx : ∀ x ∈ l, x.length = m) :
    ∀ d i, i + d = l.length → ∃ s : Bool, Ev (fun k => spec_ClosedUnderSums.l0 k l (i : Int)) (s, 0) ∧ (s = true ↔ ∀ p q, i ≤ p → p < l.length → q ≤ p → Sum l p q) := by
  intro d
  induction d with
  | zero =>
    intro i hi
    exact ⟨true, Ev.step (f := fun _ => some (true, 0)) (fun k => by simp only [spec_ClosedUnderSums.l0]; rw [if_neg (by omega)]) (Ev.now _), ⟨fun _ p q h1 h2 => by omega, fun _ => rfl⟩⟩
  | succ d ih =>
    intro i hi
    obtain ⟨r, h1, h2⟩ := ih (i + 1) (by omega)
    obtain ⟨s, h3, h4⟩ := scus_row l hl m hm hx i (by omega) r _ h1 h2 (i + 1) 0 (by omega)
    refine ⟨s, Ev.step (f := fun k => spec_ClosedUnderSums.l1 k l (i : Int) 0) (fun k => by simp only [spec_ClosedUnderSums.l0]; rw [if_pos (by omega)]) h3, ?_⟩
    rw [h4]
    exact ⟨fun h p q h5 h6 h7 => by
        rcases Nat.lt_or_ge i p with h8 | h8
        · exact h.1 p q h8 h6 h7
        · have : p = i := by omega
          subst this
          exact h.2 q (Nat.zero_le _) h7,
      fun h => ⟨fun p q h5 h6 h7 => h p q (by omega) h6 h7, fun q _ h7 => h i q (Nat.le_refl _) (by omega) h7⟩⟩
theorem xorl_comm {a b : List Int} (wa : ∀ x ∈ a, (Lit.int .u16 x).wf = true) (wb : ∀ x ∈ b, (Lit.int .u16 x).wf = true) (hl : a.length = b.length) : xorl a b = xorl b a := by
  unfold xorl
  apply List.ext_getElem
  · simp [hl]
  · intro i h1 h2
    simp only [List.length_zipWith] at h1 h2
    simp only [List.getElem_zipWith]
    obtain ⟨x, hx, hx2⟩ := wf_u16 (wa _ (List.getElem_mem (show i < a.length by omega)))
    obtain ⟨y, hy, hy2⟩ := wf_u16 (wb _ (List.getElem_mem (show i < b.length by omega)))
    rw [hx, hy, xor16 hx2 hy2, xor16 hy2 hx2, Nat.xor_comm]
theorem cusB_iff (l : List (List Int)) (m : Nat) (hx : ∀ x ∈ l, x.length = m ∧ ∀ n ∈ x, (Lit.int .u16 n).wf = true) : cusB l = true ↔ ∀ p q, 0 ≤ p → p < l.length → q ≤ p → Sum l p q := by
  unfold cusB
  rw [List.all_eq_true]
  constructor
  · intro h p q _ h1 h2
    have := List.all_eq_true.1 (h _ (getD_mem h1)) _ (getD_mem (show q < l.length by omega))
    exact of_decide_eq_true this
  · intro h a ha
    refine List.all_eq_true.2 (fun c hc => decide_eq_true ?_)
    obtain ⟨p, hp, rfl⟩ := List.mem_iff_getElem.1 ha
    obtain ⟨q, hq, rfl⟩ := List.mem_iff_getElem.1 hc
    have ep : l.getD p [] = l[p] := by simp [List.getD, hp]
    have eq : l.getD q [] = l[q] := by simp [List.getD, hq]
    rcases Nat.le_total q p with h1 | h1
    · have := h p q (Nat.zero_le _) hp h1
      unfold Sum at this
      rw [ep, eq] at this
      exact this
    · have := h q p (Nat.zero_le _) hq h1
      unfold Sum at this
      rw [ep, eq] at this
      rw [xorl_comm (hx _ ha).2 (hx _ hc).2 (by rw [(hx _ ha).1, (hx _ hc).1])]
      exact this
theorem scus (b : Int) (l : List (List Int)) (hl : l.length ≤ 1048576) (hx : ∀ x ∈ l, x.length ≤ 1048576) (hw : ∀ x ∈ l, ∀ n ∈ x, (Lit.int .u16 n).wf = true) : Ev (fun k => spec_ClosedUnderSums.f k b l) (cusR b l) := by
  have ha := slisted b l hl hx
  have hf : ∀ k, spec_ClosedUnderSums.f k b l = (spec_l06Listed.f k b l).bind fun t => if t = 0 then spec_ClosedUnderSums.l0 k l 0 else some (false, t) := fun k => rfl
  refine Ev.congr hf (Ev.bind ha ?_)
  unfold cusR
  by_cases hc : listW b l [] = 0
  · rw [if_pos hc]
    have hok := (Given.listW_zero hc).2
    rw [List.append_nil] at hok
    obtain ⟨s, h1, h2⟩ := scus_all l hl (l.getD 0 []).length (by
      rcases Nat.eq_zero_or_pos l.length with h0 | h0
      · rw [List.eq_nil_of_length_eq_zero h0]; simp
      · exact hx _ (getD_mem h0)) (fun x m => (Given.okW_mem hok m).1) l.length 0 (by omega)
    have e : s = cusB l := by
      rw [Bool.eq_iff_iff, h2, cusB_iff l _ (fun x m => ⟨(Given.okW_mem hok m).1, hw x m⟩)]
    rw [e] at h1
    exact Ev.congr (fun k => if_pos hc) h1
  · rw [if_neg hc]
    exact Ev.congr (fun k => if_neg hc) (Ev.now _)
theorem FnExactClosedUnderSums (a0 : Int) (l : List (List Int)) (_w0 : (Lit.int .i64 a0).wf = true) (hm : l.length ≤ maxLen) (hx : ∀ x ∈ l, x.length ≤ maxLen ∧ ∀ n ∈ x, (Lit.int .u16 n).wf = true) : ∃ k, laws_FnExactClosedUnderSums.f k a0 l = some true := by
  obtain ⟨v, hv, hd⟩ := sz_ev l hm (fun x m => (hx x m).1)
  obtain ⟨K0, h0⟩ : ∃ K, ∀ k, K ≤ k → laws_szWordS.f k l 1048576 = some v := hv
  by_cases hn : v < 0
  · exact ⟨K0, by unfold laws_FnExactClosedUnderSums.f; rw [h0 K0 (Nat.le_refl _), Option.bind_some, if_pos hn]⟩
  · obtain ⟨hl, hx2⟩ := hd.resolve_left hn
    obtain ⟨K1, h1⟩ : ∃ K, ∀ k, K ≤ k → laws_toWordS.f k l = some l := toWordS_ev l hl hx2
    obtain ⟨K2, h2⟩ : ∃ K, ∀ k, K ≤ k → spec_ClosedUnderSums.f k a0 l = some (cusR a0 l) := scus a0 l hl hx2 (fun x m => (hx x m).2)
    obtain ⟨K3, h3⟩ : ∃ K, ∀ k, K ≤ k → laws_eqWordS.f k l l = some true := eqWordS_ev l hl hx2
    have hi : impl_ClosedUnderSums.f a0 l = some (cusR a0 l) := by unfold impl_ClosedUnderSums.f; rw [if_pos ⟨hl, List.all_eq_true.2 (fun x m => List.all_eq_true.2 (hx x m).2)⟩]
    refine ⟨K0 + K1 + K2 + K3 + 1, ?_⟩
    unfold laws_FnExactClosedUnderSums.f
    simp [h0 _ (show K0 ≤ K0 + K1 + K2 + K3 + 1 by omega), h1 _ (show K1 ≤ K0 + K1 + K2 + K3 + 1 by omega), h2 _ (show K2 ≤ K0 + K1 + K2 + K3 + 1 by omega), hi, laws_FnExactClosedUnderSums.j0, h1 _ (show K1 ≤ K0 + K1 + K2 + K3 by omega), h3 _ (show K3 ≤ K0 + K1 + K2 + K3 by omega)]

end Go.Proofs.Ytabdpdnofljkcaa.Pure
