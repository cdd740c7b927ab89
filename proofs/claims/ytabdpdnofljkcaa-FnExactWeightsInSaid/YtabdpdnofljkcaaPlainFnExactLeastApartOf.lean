/- LeastApartOf answers as the reference for all arguments, as a statement on numbers and lists alone. -/
import Derived.Test.YtabdpdnofljkcaaRFnExactLeastApartOfx3
import Derived.Test.YtabdpdnofljkcaaN1
namespace Go.Proofs.Ytabdpdnofljkcaa.Pure
open Go.RowKit Go.Proofs.Ytabdpdnofljkcaa.RFnExactLeastApartOf Go.Proofs.YtabdpdnofljkcaaW.PrintWords Go.Proofs.YtabdpdnofljkcaaW.PrintLast Go.Proofs.YtabdpdnofljkcaaW.PrintMore Go.Proofs.Ytabdpdnofljkcaa.NimF Go.Proofs.Ytabdpdnofljkcaa.NimGo Go.Proofs.Ytabdpdnofljkcaa.Given
theorem toWord_ev (l : List Int) (h : l.length ≤ 1048576) : ∃ K, ∀ k, K ≤ k → laws_toWord.f k l = some l :=
  to_ev (fun _ _ => rfl) (fun _ _ _ _ => rfl) l (by omega)
theorem eqWord_ev (l : List Int) (h : l.length ≤ 1048576) : ∃ K, ∀ k, K ≤ k → laws_eqWord.f k l l = some true :=
  eq_refl_ev (fun _ _ _ => rfl) (fun _ _ _ _ => rfl) l (by omega)

theorem rdL1 (xs : List (List Int)) (i : Nat) : rd_L1 xs (i : Int) = xs.getD i [] := by simp [rd_L1]
theorem rdL2 (xs : List (List Int)) (i : Nat) : rd_L2 xs (i : Int) = xs.getD i [] := by simp [rd_L2]
theorem getD_mem {l : List (List Int)} {i : Nat} (h : i < l.length) : l.getD i [] ∈ l := by
  have e : l.getD i [] = l[i] := by simp [List.getD, h]
  rw [e]; exact List.getElem_mem h
theorem szw (x : List Int) (n : Nat) (hn : n ≤ 1048576) (hx : x.length ≤ 9223372036854775807) : laws_szWord.f x (n : Int) = some (if n < x.length then -1 else ((n - x.length : Nat) : Int)) := by
  have w : wrap64 ((n : Int) - (x.length : Int)) = (n : Int) - (x.length : Int) := by unfold wrap64; omega
  unfold laws_szWord.f
  rw [w]
  by_cases h : n < x.length
  · rw [if_pos (by omega), if_pos h]
  · rw [if_neg (by omega), if_neg h]; congr 1; omega
theorem sz_loop (l : List (List Int)) (hl : l.length ≤ 1048576) (hx : ∀ x ∈ l, x.length ≤ 9223372036854775807) : ∀ (d i n : Nat), i + d = l.length → n ≤ 1048576 → ∃ v : Int, Ev (fun k => laws_szWordS.l0 k l (n : Int) (i : Int)) v ∧ (v < 0 ∨ ∀ j, i ≤ j → j < l.length → (l.getD j []).length ≤ 1048576) := by
  intro d
  induction d with
  | zero =>
    intro i n hi hn
    exact ⟨(n : Int), Ev.step (f := fun _ => some (n : Int)) (fun k => by simp only [laws_szWordS.l0]; rw [if_neg (by omega)]) (Ev.now _), .inr (fun j h1 h2 => absurd h2 (by omega))⟩
  | succ d ih =>
    intro i n hi hn
    have hxi := hx _ (getD_mem (show i < l.length by omega))
    by_cases h : n < (l.getD i []).length
    · refine ⟨-1, Ev.step (f := fun _ => some (-1)) (fun k => ?_) (Ev.now _), .inl (by omega)⟩
      simp only [laws_szWordS.l0]
      rw [if_pos (by omega), if_pos (by omega), rdL1, szw _ _ hn hxi, if_pos h, Option.bind_some, if_pos (by omega)]
    · obtain ⟨v, e, hv⟩ := ih (i + 1) (n - (l.getD i []).length) (by omega) (by omega)
      refine ⟨v, Ev.step (f := fun k => laws_szWordS.l0 k l ((n - (l.getD i []).length : Nat) : Int) ((i + 1 : Nat) : Int)) (fun k => ?_) e, ?_⟩
      · simp only [laws_szWordS.l0]
        rw [if_pos (by omega), if_pos (by omega), rdL1, szw _ _ hn hxi, if_neg h, Option.bind_some, if_neg (by omega), w64s (by omega)]
      · rcases hv with hv | hv
        · exact .inl hv
        · refine .inr (fun j h1 h2 => ?_)
          by_cases hj : j = i
          · subst hj; omega
          · exact hv j (by omega) h2
theorem sz_ev (l : List (List Int)) (hl : l.length ≤ maxLen) (hx : ∀ x ∈ l, x.length ≤ maxLen) : ∃ v : Int, Ev (fun k => laws_szWordS.f k l 1048576) v ∧ (v < 0 ∨ l.length ≤ 1048576 ∧ ∀ x ∈ l, x.length ≤ 1048576) := by
  have hmx : maxLen ≤ 9223372036854775807 := by decide
  have w : wrap64 ((1048576 : Int) - (l.length : Int)) = (1048576 : Int) - (l.length : Int) := by unfold wrap64; omega
  by_cases h : 1048576 < l.length
  · exact ⟨-1, ⟨0, fun k _ => by show laws_szWordS.f k l 1048576 = _; unfold laws_szWordS.f; rw [w, if_pos (by omega)]⟩, .inl (by omega)⟩
  · obtain ⟨v, e, hv⟩ := sz_loop l (by omega) (fun x m => Nat.le_trans (hx x m) hmx) l.length 0 (1048576 - l.length) (by omega) (by omega)
    refine ⟨v, Ev.congr (fun k => ?_) e, ?_⟩
    · show laws_szWordS.f k l 1048576 = laws_szWordS.l0 k l ((1048576 - l.length : Nat) : Int) ((0 : Nat) : Int)
      unfold laws_szWordS.f
      rw [w, if_neg (by omega), show (1048576 : Int) - (l.length : Int) = ((1048576 - l.length : Nat) : Int) by omega]
      rfl
    · rcases hv with hv | hv
      · exact .inl hv
      · refine .inr ⟨by omega, fun x m => ?_⟩
        obtain ⟨j, hj, rfl⟩ := List.mem_iff_getElem.1 m
        have := hv j (by omega) hj
        simpa [List.getD, hj] using this

def isB (b : Int) : Bool := b == 2 || b == 4 || b == 16 || b == 256
theorem sbase (b : Int) : spec_l06Base.f b = some (isB b) := by
  unfold spec_l06Base.f isB
  by_cases h2 : b = 2
  · subst h2; rfl
  by_cases h4 : b = 4
  · subst h4; rfl
  by_cases h16 : b = 16
  · subst h16; rfl
  rw [if_neg h2, if_neg h4, if_neg h16]
  have e2 : (b == 2) = false := beq_eq_false_iff_ne.mpr h2
  have e4 : (b == 4) = false := beq_eq_false_iff_ne.mpr h4
  have e16 : (b == 16) = false := beq_eq_false_iff_ne.mpr h16
  rw [e2, e4, e16]; rfl
theorem isB_cases {b : Int} (h : isB b = true) : b = 2 ∨ b = 4 ∨ b = 16 ∨ b = 256 := by
  unfold isB at h
  simp only [Bool.or_eq_true, beq_iff_eq] at h
  omega
theorem sin (a b c : Int) : spec_l00In.f a b c = some (decide (b ≤ a ∧ a ≤ c)) := by
  unfold spec_l00In.f
  by_cases h : a ≥ b
  · rw [if_pos h]; congr 1; rw [Bool.eq_iff_iff]; simp only [decide_eq_true_eq]; omega
  · rw [if_neg h]; congr 1; symm; exact decide_eq_false (by omega)

def isForB (l : List Int) (b : Int) : Bool := decide (1 ≤ l.length ∧ l.length ≤ 7) && !l.any (over b)
theorem over_at {l : List Int} {b : Int} {i : Nat} (h : i < l.length) : (l.take (i + 1)).any (over b) = ((l.take i).any (over b) || over b (l.getD i 0)) := by
  rw [List.take_add_one, List.any_append, List.getElem?_eq_getElem h]; simp [List.getD, h]
theorem over_mem {l : List Int} {b : Int} {i : Nat} (h : i < l.length) (ho : over b (l.getD i 0) = true) : l.any (over b) = true :=
  List.any_eq_true.2 ⟨_, by rw [List.getD_eq_getElem?_getD, List.getElem?_eq_getElem h]; exact List.getElem_mem h, ho⟩
theorem sword_loop (l : List Int) (b : Int) (hl : l.length ≤ 1048576) : ∀ (d i : Nat), i + d = l.length → (l.take i).any (over b) = false → Ev (fun k => spec_l06Word.l0 k b l (i : Int)) (isForB l b) := by
  intro d
  induction d with
  | zero =>
    intro i hi ha
    have ei : i = l.length := by omega
    rw [ei, List.take_length] at ha
    refine Ev.step (f := fun _ => some (isForB l b)) (fun k => ?_) (Ev.now _)
    simp only [spec_l06Word.l0]
    rw [if_neg (by omega), sin, Option.bind_some]
    unfold isForB
    rw [ha]
    congr 1
    rw [Bool.not_false, Bool.and_true, decide_eq_decide]
    omega
  | succ d ih =>
    intro i hi ha
    have hlt : i < l.length := by omega
    by_cases ho : over b (l.getD i 0) = true
    · refine Ev.step (f := fun _ => some (isForB l b)) (fun k => ?_) (Ev.now _)
      simp only [spec_l06Word.l0]
      rw [if_pos (by omega), if_pos (by omega), rd_nat, if_pos (by unfold over at ho; exact of_decide_eq_true ho)]
      unfold isForB
      rw [over_mem hlt ho]
      simp
    · have h := ih (i + 1) (by omega) (by rw [over_at hlt, ha]; simpa using ho)
      refine Ev.step (f := fun k => spec_l06Word.l0 k b l ((i + 1 : Nat) : Int)) (fun k => ?_) h
      simp only [spec_l06Word.l0]
      rw [if_pos (by omega), if_pos (by omega), rd_nat, if_neg (by intro h; exact ho (by unfold over; exact decide_eq_true h)), w64s (by omega)]
theorem sword (l : List Int) (b : Int) (hl : l.length ≤ 1048576) : ∃ K, ∀ k, K ≤ k → spec_l06Word.f k b l = some (isForB l b) := by
  exact sword_loop l b hl l.length 0 (by omega) (by simp)
theorem iword (l : List Int) (b : Int) : impl_Word_isFor.f l b = some (isForB l b) := rfl

def weight (l : List Int) : Nat := l.countP (fun x => x != 0)
theorem weight_zero {x : Int} (l : List Int) (h : x = 0) : weight (x :: l) = weight l := by unfold weight; rw [List.countP_cons]; simp [h]
theorem weight_one {x : Int} (l : List Int) (h : ¬ x = 0) : weight (x :: l) = weight l + 1 := by unfold weight; rw [List.countP_cons]; simp [h]
theorem weight_le (l : List Int) : weight l ≤ l.length := List.countP_le_length
theorem impl_weight_loop (l : List Int) (h : l.length ≤ 1048576) : ∀ d i (n : Nat), i + d = l.length → n ≤ i → Ev (fun k => impl_WeightOf.l0 k (n : Int) l (l.length : Int) (i : Int)) ((n + weight (l.drop i) : Nat) : Int) := by
  intro d
  induction d with
  | zero =>
    intro i n hi hn
    rw [List.drop_eq_nil_of_le (by omega)]
    exact Ev.step (f := fun _ => some (n : Int)) (fun k => by simp only [impl_WeightOf.l0]; rw [if_neg (by omega)]) (Ev.now _)
  | succ d ih =>
    intro i n hi hn
    have hd : l.drop i = l[i] :: l.drop (i + 1) := List.drop_eq_getElem_cons (by omega)
    have he : l.getD i 0 = l[i] := by simp [List.getD, show i < l.length by omega]
    by_cases hz : l[i] = 0
    · have hw : weight (l.drop i) = weight (l.drop (i + 1)) := by rw [hd, weight_zero _ hz]
      rw [hw]
      refine Ev.step (f := fun k => impl_WeightOf.l0 k (n : Int) l (l.length : Int) ((i + 1 : Nat) : Int)) (fun k => ?_) (ih (i + 1) n (by omega) (by omega))
      simp only [impl_WeightOf.l0]
      rw [if_pos (by omega), if_pos (by omega), if_pos (by omega), rd_nat, he, if_pos hz, w64s (by omega)]
    · have hw : n + weight (l.drop i) = n + 1 + weight (l.drop (i + 1)) := by rw [hd, weight_one _ hz]; omega
      rw [hw]
      refine Ev.step (f := fun k => impl_WeightOf.l0 k ((n + 1 : Nat) : Int) l (l.length : Int) ((i + 1 : Nat) : Int)) (fun k => ?_) (ih (i + 1) (n + 1) (by omega) (by omega))
      simp only [impl_WeightOf.l0]
      rw [if_pos (by omega), if_pos (by omega), if_pos (by omega), rd_nat, he, if_neg hz, w64s (by omega), w64s (by omega)]
theorem impl_weight (l : List Int) (h : l.length ≤ 1048576) : ∃ K, ∀ k, K ≤ k → impl_WeightOf.f k l = some ((weight l : Nat) : Int) := by
  have e := impl_weight_loop l h l.length 0 0 (by omega) (by omega)
  rw [Nat.zero_add, List.drop_zero] at e
  exact e

def xorl (a b : List Int) : List Int := List.zipWith (fun x y => Go.bits .xor .u16 x y) a b
theorem xorl_length {a b : List Int} (h : a.length = b.length) : (xorl a b).length = a.length := by
  unfold xorl; rw [List.length_zipWith]; omega
theorem xorl_drop {a b : List Int} {i : Nat} (ha : i < a.length) (hb : i < b.length) : (xorl a b).drop i = Go.bits .xor .u16 (a.getD i 0) (b.getD i 0) :: (xorl a b).drop (i + 1) := by
  have h : i < (xorl a b).length := by unfold xorl; rw [List.length_zipWith]; omega
  rw [List.drop_eq_getElem_cons h]
  congr 1
  simp [xorl, List.getD, ha, hb]
theorem plus_loop (a b : List Int) (hl : a.length = b.length) (h7 : a.length ≤ 1048576) : ∀ (d i : Nat) (x : List Int), i + d = a.length → x.length = i → Ev (fun k => impl_Word_plus.l0 k b x a (a.length : Int) (i : Int)) (x ++ (xorl a b).drop i) := by
  intro d
  induction d with
  | zero =>
    intro i x hi hx
    rw [List.drop_eq_nil_of_le (by rw [xorl_length hl]; omega), List.append_nil]
    exact Ev.step (f := fun _ => some x) (fun k => by simp only [impl_Word_plus.l0]; rw [if_neg (by omega)]) (Ev.now _)
  | succ d ih =>
    intro i x hi hx
    have e := ih (i + 1) (x ++ [Go.bits .xor .u16 (a.getD i 0) (b.getD i 0)]) (by omega) (by simp [hx])
    rw [xorl_drop (by omega) (by omega)]
    rw [List.append_assoc, List.singleton_append] at e
    refine Ev.step (f := fun k => impl_Word_plus.l0 k b (x ++ [Go.bits .xor .u16 (a.getD i 0) (b.getD i 0)]) a (a.length : Int) ((i + 1 : Nat) : Int)) (fun k => ?_) e
    simp only [impl_Word_plus.l0]
    rw [if_pos (by omega), if_pos (by omega), if_pos (by omega), if_pos (by omega), if_pos (by omega), rd_nat, rd_nat, w64s (by omega)]
theorem plus_ev (a b : List Int) (hl : a.length = b.length) (h7 : a.length ≤ 1048576) : ∃ K, ∀ k, K ≤ k → impl_Word_plus.f k a b = some (xorl a b) := by
  have e := plus_loop a b hl h7 a.length 0 [] (by omega) rfl
  rw [List.nil_append, List.drop_zero] at e
  exact e

theorem xor_zero_iff {x y : Int} (hx : (Lit.int .u16 x).wf = true) (hy : (Lit.int .u16 y).wf = true) : Go.bits .xor .u16 x y = 0 ↔ x = y := by
  obtain ⟨a, rfl, ha⟩ := wf_u16 hx
  obtain ⟨b, rfl, hb⟩ := wf_u16 hy
  rw [xor16 ha hb]
  constructor
  · intro h
    have : a ^^^ b = 0 := by omega
    rw [xor_eq_zero this]
  · intro h
    have : a = b := by omega
    rw [this, Nat.xor_self]; rfl
theorem getD_wf {l : List Int} (h : ∀ x ∈ l, (Lit.int .u16 x).wf = true) {i : Nat} (hi : i < l.length) : (Lit.int .u16 (l.getD i 0)).wf = true := by
  have e : l.getD i 0 = l[i] := by simp [List.getD, hi]
  rw [e]; exact h _ (List.getElem_mem hi)
theorem apart_loop (a b : List Int) (wa : ∀ x ∈ a, (Lit.int .u16 x).wf = true) (wb : ∀ x ∈ b, (Lit.int .u16 x).wf = true) (hl : a.length = b.length) (h7 : a.length ≤ 1048576) :
    ∀ (d i n : Nat), i + d = a.length → n ≤ i → Ev (fun k => spec_l06Apart.l0 k a b (n : Int) (i : Int)) ((n + weight ((xorl a b).drop i) : Nat) : Int) := by
  intro d
  induction d with
  | zero =>
    intro i n hi hn
    rw [List.drop_eq_nil_of_le (by rw [xorl_length hl]; omega)]
    exact Ev.step (f := fun _ => some (n : Int)) (fun k => by simp only [spec_l06Apart.l0]; rw [if_neg (by omega)]) (Ev.now _)
  | succ d ih =>
    intro i n hi hn
    have hz := xor_zero_iff (getD_wf wa (show i < a.length by omega)) (getD_wf wb (show i < b.length by omega))
    by_cases hv : a.getD i 0 = b.getD i 0
    · have hw : n + weight ((xorl a b).drop i) = n + weight ((xorl a b).drop (i + 1)) := by rw [xorl_drop (by omega) (by omega), weight_zero _ (hz.2 hv)]
      rw [hw]
      refine Ev.step (f := fun k => spec_l06Apart.l0 k a b (n : Int) ((i + 1 : Nat) : Int)) (fun k => ?_) (ih (i + 1) n (by omega) (by omega))
      simp only [spec_l06Apart.l0]
      rw [if_pos (by omega), if_pos (by omega), if_pos (by omega), rd_nat, rd_nat, if_pos hv, w64s (by omega)]
    · have hw : n + weight ((xorl a b).drop i) = n + 1 + weight ((xorl a b).drop (i + 1)) := by rw [xorl_drop (by omega) (by omega), weight_one _ (fun e => hv (hz.1 e))]; omega
      rw [hw]
      refine Ev.step (f := fun k => spec_l06Apart.l0 k a b ((n + 1 : Nat) : Int) ((i + 1 : Nat) : Int)) (fun k => ?_) (ih (i + 1) (n + 1) (by omega) (by omega))
      simp only [spec_l06Apart.l0]
      rw [if_pos (by omega), if_pos (by omega), if_pos (by omega), rd_nat, rd_nat, if_neg hv, w64s (by omega), w64s (by omega)]

/-- in how many numbers two words differ -/
def ap (a b : List Int) : Int := ((weight (xorl a b) : Nat) : Int)
theorem sap (a b : List Int) (wa : ∀ x ∈ a, (Lit.int .u16 x).wf = true) (wb : ∀ x ∈ b, (Lit.int .u16 x).wf = true) (hl : a.length = b.length) (h : a.length ≤ 1048576) : Ev (fun k => spec_l06Apart.f k a b) (ap a b) := by
  have e := apart_loop a b wa wb hl h a.length 0 0 (by omega) (by omega)
  rw [Nat.zero_add, List.drop_zero] at e
  exact e
theorem iap (a b : List Int) (hl : a.length = b.length) (h : a.length ≤ 1048576) : Ev (fun k => impl_Word_apart.f k a b) (ap a b) := by
  unfold impl_Word_apart.f
  refine Ev.bind (plus_ev a b hl h) ?_
  refine Ev.congr (fun k => ?_) (impl_weight (xorl a b) (by rw [xorl_length hl]; omega))
  cases impl_WeightOf.f k (xorl a b) <;> rfl

theorem takeW_set_succ {x a : List (List Int)} {i : Nat} {v : List Int} (hi : i < x.length) (ht : x.take i = a.take i) (hv : a[i]? = some v) : (x.set i v).take (i + 1) = a.take (i + 1) := by
  apply List.ext_getElem?
  intro j
  have hj := congrArg (fun l => l[j]?) ht
  simp only [List.getElem?_take] at hj
  simp only [List.getElem?_take, List.getElem?_set]
  by_cases h1 : j < i
  · have h2 : j < i + 1 := by omega
    have h3 : ¬ i = j := by omega
    simp only [h1, if_true] at hj
    simp only [h2, h3, if_true, if_false]; exact hj
  · by_cases h2 : j = i
    · subst h2
      simp [hi, hv]
    · have h3 : ¬ j < i + 1 := by omega
      simp [h3]
theorem getDW_some {a : List (List Int)} {i : Nat} (h : i < a.length) : a[i]? = some (a.getD i []) := by
  simp [List.getD, h]
theorem toWordS_loop (l : List (List Int)) (hl : l.length ≤ 1048576) (hx : ∀ x ∈ l, x.length ≤ 1048576) : ∀ d i (x : List (List Int)), i + d = l.length → x.length = l.length → x.take i = l.take i → Ev (fun k => laws_toWordS.l0 k l x (i : Int)) l := by
  intro d
  induction d with
  | zero =>
    intro i x hi hlx ht
    have hxa : x = l := by
      rw [List.take_of_length_le (by omega), List.take_of_length_le (by omega)] at ht; exact ht
    subst hxa
    exact Ev.step (f := fun _ => some x) (fun k => by simp only [laws_toWordS.l0]; rw [if_neg (by omega)]) (Ev.now _)
  | succ d ih =>
    intro i x hi hlx ht
    refine Ev.step (f := fun k => (laws_toWord.f k (l.getD i [])).bind fun t => laws_toWordS.l0 k l (x.set i t) ((i + 1 : Nat) : Int)) (fun k => ?_) (Ev.bind (toWord_ev _ (hx _ (getD_mem (by omega)))) (ih (i + 1) _ (by omega) (by simpa using hlx) (takeW_set_succ (by omega) ht (getDW_some (by omega)))))
    simp only [laws_toWordS.l0]
    rw [if_pos (by omega), if_pos (by omega), rdL1]
    congr 1
    funext t
    rw [if_pos (by omega), w64s (by omega), Int.toNat_natCast]
theorem toWordS_ev (l : List (List Int)) (hl : l.length ≤ 1048576) (hx : ∀ x ∈ l, x.length ≤ 1048576) : Ev (fun k => laws_toWordS.f k l) l := by
  have e := toWordS_loop l hl hx l.length 0 (List.replicate ((l.length : Int) : Int).toNat []) (by omega) (by simp) (by simp)
  exact Ev.congr (fun k => by unfold laws_toWordS.f; rw [if_pos (by omega), if_pos (by omega)]; rfl) e
theorem eqWordS_loop (l : List (List Int)) (hl : l.length ≤ 1048576) (hx : ∀ x ∈ l, x.length ≤ 1048576) : ∀ d i, i + d = l.length → Ev (fun k => laws_eqWordS.l0 k l l (i : Int)) true := by
  intro d
  induction d with
  | zero =>
    intro i hi
    exact Ev.step (f := fun _ => some true) (fun k => by simp only [laws_eqWordS.l0]; rw [if_neg (by omega)]) (Ev.now _)
  | succ d ih =>
    intro i hi
    refine Ev.step (f := fun k => (laws_eqWord.f k (l.getD i []) (l.getD i [])).bind fun t => if t = true then laws_eqWordS.l0 k l l ((i + 1 : Nat) : Int) else some false) (fun k => ?_) (Ev.bind (eqWord_ev _ (hx _ (getD_mem (by omega)))) (Ev.congr (fun k => by rw [if_pos rfl]) (ih (i + 1) (by omega))))
    simp only [laws_eqWordS.l0]
    rw [if_pos (by omega), if_pos (by omega), if_pos (by omega), rdL2]
    congr 1
    funext t
    rw [w64s (by omega)]
theorem eqWordS_ev (l : List (List Int)) (hl : l.length ≤ 1048576) (hx : ∀ x ∈ l, x.length ≤ 1048576) : Ev (fun k => laws_eqWordS.f k l l) true :=
  Ev.congr (fun k => by unfold laws_eqWordS.f; rw [if_pos rfl]; rfl) (eqWordS_loop l hl hx l.length 0 (by omega))
theorem allW_at {p : List Int → Bool} {l : List (List Int)} {i : Nat} (h : i < l.length) : (l.take (i + 1)).all p = ((l.take i).all p && p (l.getD i [])) := by
  rw [List.take_add_one, List.all_append, List.getElem?_eq_getElem h]; simp [List.getD, h]
theorem allW_no {p : List Int → Bool} {l : List (List Int)} {i : Nat} (h : i < l.length) (ho : p (l.getD i []) = false) : l.all p = false := by
  rw [List.all_eq_false]
  exact ⟨_, getD_mem h, by rw [ho]; simp⟩
theorem okW_eq (b : Int) (l : List (List Int)) (x : List Int) : okW b l x = (isForW x b && x.length == (l.getD 0 []).length) := rfl
theorem slisted_loop (b : Int) (l : List (List Int)) (hl : l.length ≤ 1048576) (hx : ∀ x ∈ l, x.length ≤ 1048576) : ∀ d i, i + d = l.length → (l.take i).all (okW b l) = true → Ev (fun k => spec_l06Listed.l0 k b l (i : Int)) (if l.all (okW b l) = true then (if 300 < l.length then (3 : Int) else 0) else 1) := by
  intro d
  induction d with
  | zero =>
    intro i hi ha
    rw [List.take_of_length_le (by omega)] at ha
    rw [if_pos ha]
    refine Ev.step (f := fun _ => some (if 300 < l.length then (3 : Int) else 0)) (fun k => ?_) (Ev.now _)
    simp only [spec_l06Listed.l0]
    rw [if_neg (by omega)]
    by_cases h3 : 300 < l.length
    · rw [if_pos h3, if_pos (by omega)]
    · rw [if_neg h3, if_neg (by omega)]
  | succ d ih =>
    intro i hi ha
    have hlt : i < l.length := by omega
    have hs := sword (l.getD i []) b (hx _ (getD_mem hlt))
    have e0 : ∀ k, spec_l06Listed.l0 (k + 1) b l (i : Int) = (spec_l06Word.f k b (l.getD i [])).bind fun t => if t = true then (if ((l.getD i []).length : Int) = ((l.getD 0 []).length : Int) then spec_l06Listed.l0 k b l ((i + 1 : Nat) : Int) else some 1) else some 1 := by
      intro k
      simp only [spec_l06Listed.l0]
      rw [if_pos (by omega), if_pos (by omega), rdL2]
      congr 1
      funext t
      rw [if_pos (show (0 : Int) < (l.length : Int) by omega), w64s (by omega)]
      rfl
    refine Ev.step e0 (Ev.bind hs ?_)
    have ok := okW_eq b l (l.getD i [])
    by_cases hf : isForB (l.getD i []) b = true
    · have hf' : isForW (l.getD i []) b = true := hf
      rw [hf'] at ok
      by_cases hn : (l.getD i []).length = (l.getD 0 []).length
      · have ok2 : okW b l (l.getD i []) = true := by rw [ok, hn]; simp
        exact Ev.congr (fun k => by rw [if_pos hf, if_pos (by omega)]) (ih (i + 1) (by omega) (by rw [allW_at hlt, ha, ok2]; rfl))
      · have ok2 : okW b l (l.getD i []) = false := by rw [ok]; simpa using hn
        rw [if_neg (by rw [allW_no hlt ok2]; simp)]
        exact Ev.congr (fun k => by rw [if_pos hf, if_neg (by omega)]) (Ev.now 1)
    · have hf' : isForW (l.getD i []) b = false := by rw [Bool.not_eq_true] at hf; exact hf
      have ok2 : okW b l (l.getD i []) = false := by rw [ok, hf']; rfl
      rw [if_neg (by rw [allW_no hlt ok2]; simp)]
      exact Ev.congr (fun k => by rw [if_neg hf]) (Ev.now 1)
theorem slisted (b : Int) (l : List (List Int)) (hl : l.length ≤ 1048576) (hx : ∀ x ∈ l, x.length ≤ 1048576) : Ev (fun k => spec_l06Listed.f k b l) (listW b l []) := by
  have e := slisted_loop b l hl hx l.length 0 (by omega) (by simp)
  unfold listW
  rw [List.append_nil]
  by_cases hb : isBW b = true
  · rw [if_pos hb]
    refine Ev.congr (fun k => ?_) e
    unfold spec_l06Listed.f
    rw [sbase, Option.bind_some, if_pos (show isB b = true from hb)]
    rfl
  · rw [if_neg hb]
    refine Ev.congr (fun k => ?_) (Ev.now 2)
    unfold spec_l06Listed.f
    rw [sbase, Option.bind_some, if_neg (show ¬ isB b = true from hb)]
theorem ilist (b : Int) (l l2 : List (List Int)) (hl : l.length ≤ 1048576) (hl2 : l2.length ≤ 1048576) : impl_listCode.f b l l2 = some (listW b l l2) := by
  unfold impl_listCode.f; rw [if_pos ⟨hl, hl2⟩]
/-- what a code 0 says of a list -/
theorem listW_zero {b : Int} {l l2 : List (List Int)} (h : listW b l l2 = 0) : l.length ≤ 300 ∧ (l ++ l2).all (okW b (l ++ l2)) = true := by
  unfold listW at h
  by_cases hb : isBW b = true
  · rw [if_pos hb] at h
    by_cases ha : (l ++ l2).all (okW b (l ++ l2)) = true
    · rw [if_pos ha] at h
      by_cases h3 : 300 < l.length
      · rw [if_pos h3] at h; cases h
      · exact ⟨by omega, ha⟩
    · rw [if_neg ha] at h; cases h
  · rw [if_neg hb] at h; cases h
theorem okW_mem {b : Int} {l : List (List Int)} (h : l.all (okW b l) = true) {x : List Int} (hx : x ∈ l) : x.length = (l.getD 0 []).length ∧ 1 ≤ x.length ∧ x.length ≤ 7 ∧ ∀ n ∈ x, over b n = false := by
  have := List.all_eq_true.1 h x hx
  rw [okW_eq] at this
  unfold isForW at this
  simp only [Bool.and_eq_true, decide_eq_true_eq, beq_iff_eq, Bool.not_eq_true', List.any_eq_false] at this
  exact ⟨this.2, this.1.1.1, this.1.1.2, fun n hn => by have := this.1.2 n hn; simpa using this⟩
theorem smin (a b : Int) : spec_l00Min.f a b = some (mn a b) := by
  unfold spec_l00Min.f mn
  by_cases h : a < b
  · rw [if_pos h, if_neg (by omega)]
  · rw [if_neg h]
    by_cases h2 : b < a
    · rw [if_pos h2]
    · rw [if_neg h2]; congr 1; omega

theorem least_inner (l : List (List Int)) (hl : l.length ≤ 1048576) (c : Nat) (hc : c ≤ 7) (hx : ∀ x ∈ l, x.length = c ∧ ∀ n ∈ x, (Lit.int .u16 n).wf = true) (i : Nat) (hi : i < l.length)
    (next : ∀ m : Int, ∃ v : Int, Ev (fun k => spec_LeastApartOf.l0 k l m ((i + 1 : Nat) : Int)) (v, 0) ∧ Ev (fun k => impl_LeastApartOf.l0 k l m l (l.length : Int) ((i + 1 : Nat) : Int)) (v, 0)) :
    ∀ (e j : Nat) (m : Int), j + e = i → ∃ v : Int, Ev (fun k => spec_LeastApartOf.l1 k l m (i : Int) (j : Int)) (v, 0) ∧ Ev (fun k => impl_LeastApartOf.l1 k l m (l.getD i []) l (l.length : Int) (i : Int) (l.take i) (i : Int) (j : Int)) (v, 0) := by
  intro e
  induction e with
  | zero =>
    intro j m hj
    obtain ⟨v, h1, h2⟩ := next m
    refine ⟨v, Ev.step (f := fun k => spec_LeastApartOf.l0 k l m ((i + 1 : Nat) : Int)) (fun k => ?_) h1, Ev.step (f := fun k => impl_LeastApartOf.l0 k l m l (l.length : Int) ((i + 1 : Nat) : Int)) (fun k => ?_) h2⟩
    · simp only [spec_LeastApartOf.l1]
      rw [if_neg (by omega), w64s (by omega)]
    · simp only [impl_LeastApartOf.l1]
      rw [if_neg (by omega), w64s (by omega)]
  | succ e ih =>
    intro j m hj
    have ha := hx _ (getD_mem hi)
    have hb := hx _ (getD_mem (show j < l.length by omega))
    obtain ⟨v, h1, h2⟩ := ih (j + 1) (mn m (ap (l.getD i []) (l.getD j []))) (by omega)
    refine ⟨v, Ev.step (f := fun k => (spec_l06Apart.f k (l.getD i []) (l.getD j [])).bind fun t => spec_LeastApartOf.l1 k l (mn m t) (i : Int) ((j + 1 : Nat) : Int)) (fun k => ?_) (Ev.bind (sap _ _ ha.2 hb.2 (by omega) (by omega)) h1),
      Ev.step (f := fun k => (impl_Word_apart.f k (l.getD i []) (l.getD j [])).bind fun t => impl_LeastApartOf.l1 k l (mn m t) (l.getD i []) l (l.length : Int) (i : Int) (l.take i) (i : Int) ((j + 1 : Nat) : Int)) (fun k => ?_) (Ev.bind (iap _ _ (by omega) (by omega)) h2)⟩
    · simp only [spec_LeastApartOf.l1]
      rw [if_pos (by omega), if_pos (by omega), if_pos (by omega), if_pos (by omega), if_pos (by omega), rdL2, rdL2]
      congr 1
      funext t
      rw [smin, Option.bind_some, w64s (by omega)]
    · simp only [impl_LeastApartOf.l1]
      have et : (l.take i).getD j [] = l.getD j [] := by
        simp only [List.getD, List.getElem?_take]; rw [if_pos (by omega)]
      rw [if_pos (by omega), if_pos (by omega), if_pos (by rw [List.length_take]; omega), rdL2, et]
      congr 1
      funext t
      rw [w64s (by omega)]
theorem least_outer (l : List (List Int)) (hl : l.length ≤ 1048576) (c : Nat) (hc : c ≤ 7) (hx : ∀ x ∈ l, x.length = c ∧ ∀ n ∈ x, (Lit.int .u16 n).wf = true) :
    ∀ (d i : Nat) (m : Int), i + d = l.length → ∃ v : Int, Ev (fun k => spec_LeastApartOf.l0 k l m (i : Int)) (v, 0) ∧ Ev (fun k => impl_LeastApartOf.l0 k l m l (l.length : Int) (i : Int)) (v, 0) := by
  intro d
  induction d with
  | zero =>
    intro i m hi
    refine ⟨m, Ev.step (f := fun _ => some (m, 0)) (fun k => ?_) (Ev.now _), Ev.step (f := fun _ => some (m, 0)) (fun k => ?_) (Ev.now _)⟩
    · simp only [spec_LeastApartOf.l0]; rw [if_neg (by omega)]
    · simp only [impl_LeastApartOf.l0]; rw [if_neg (by omega)]
  | succ d ih =>
    intro i m hi
    obtain ⟨v, h1, h2⟩ := least_inner l hl c hc hx i (by omega) (fun m => ih (i + 1) m (by omega)) i 0 m (by omega)
    refine ⟨v, Ev.step (fun k => ?_) h1, Ev.step (fun k => ?_) h2⟩
    · simp only [spec_LeastApartOf.l0]; rw [if_pos (by omega)]; rfl
    · simp only [impl_LeastApartOf.l0]
      rw [if_pos (by omega), if_pos (by omega), if_pos (by omega), if_pos (by omega), Option.bind_some, rdL2, Int.toNat_natCast, List.length_take, Nat.min_eq_left (by omega)]
      rfl
theorem least_same (a0 : Int) (l : List (List Int)) (hl : l.length ≤ 1048576) (hx : ∀ x ∈ l, x.length ≤ 1048576 ∧ ∀ n ∈ x, (Lit.int .u16 n).wf = true) :
    ∃ r : Int × Int, Ev (fun k => spec_LeastApartOf.f k a0 l) r ∧ Ev (fun k => impl_LeastApartOf.f k a0 l) r := by
  have hs := slisted a0 l hl (fun x m => (hx x m).1)
  have hi := ilist a0 l [] hl (by simp)
  obtain ⟨v, hv⟩ : ∃ v, listW a0 l [] = v := ⟨_, rfl⟩
  rw [hv] at hs hi
  by_cases h0 : v = 0
  · subst h0
    obtain ⟨h3, hall⟩ := listW_zero hv
    rw [List.append_nil] at hall
    by_cases h2 : l.length < 2
    · refine ⟨(0, 6), Ev.bind hs ?_, ?_⟩
      · exact Ev.congr (fun k => by rw [if_pos rfl, if_pos (by omega)]) (Ev.now _)
      · refine Ev.congr (g := fun k => impl_LeastApartOf.f k a0 l) (f := fun k => impl_LeastApartOf.j0 k l 0 true) (fun k => ?_) ?_
        · unfold impl_LeastApartOf.f
          rw [hi, Option.bind_some, if_pos rfl, decide_eq_true (by omega)]
        · exact Ev.step (f := fun k => impl_LeastApartOf.j1 k l 6) (fun k => rfl) (Ev.step (f := fun _ => some (0, 6)) (fun k => rfl) (Ev.now _))
    · obtain ⟨m, e1, e2⟩ := least_outer l hl (l.getD 0 []).length (by have := okW_mem hall (getD_mem (show 0 < l.length by omega)); omega) (fun x m => ⟨(okW_mem hall m).1, (hx x m).2⟩) l.length 0 7 (by omega)
      refine ⟨(m, 0), Ev.bind hs ?_, ?_⟩
      · exact Ev.congr (fun k => by rw [if_pos rfl, if_neg (by omega)]; rfl) e1
      · refine Ev.congr (g := fun k => impl_LeastApartOf.f k a0 l) (f := fun k => impl_LeastApartOf.j0 k l 0 false) (fun k => ?_) ?_
        · unfold impl_LeastApartOf.f
          rw [hi, Option.bind_some, if_pos rfl, decide_eq_false (by omega)]
        · exact Ev.step (f := fun k => impl_LeastApartOf.j1 k l 0) (fun k => rfl) (Ev.step (f := fun k => impl_LeastApartOf.l0 k l 7 l (l.length : Int) ((0 : Nat) : Int)) (fun k => rfl) e2)
  · refine ⟨(0, v), Ev.bind hs ?_, ?_⟩
    · exact Ev.congr (fun k => by rw [if_neg h0]) (Ev.now _)
    · refine Ev.congr (g := fun k => impl_LeastApartOf.f k a0 l) (f := fun k => impl_LeastApartOf.j0 k l v false) (fun k => ?_) ?_
      · unfold impl_LeastApartOf.f
        rw [hi, Option.bind_some, if_neg h0]
      · exact Ev.step (f := fun k => impl_LeastApartOf.j1 k l v) (fun k => rfl) (Ev.step (f := fun _ => some (0, v)) (fun k => by simp only [impl_LeastApartOf.j1]; rw [if_neg h0]) (Ev.now _))
theorem FnExactLeastApartOf (a0 : Int) (l : List (List Int)) (_w0 : (Lit.int .i64 a0).wf = true) (hm : l.length ≤ maxLen) (hx : ∀ x ∈ l, x.length ≤ maxLen ∧ ∀ n ∈ x, (Lit.int .u16 n).wf = true) : ∃ k, laws_FnExactLeastApartOf.f k a0 l = some true := by
  obtain ⟨v, hs, hv⟩ := sz_ev l hm (fun x m => (hx x m).1)
  refine Ev.rounds (g := fun k => laws_FnExactLeastApartOf.f k a0 l) ?_
  refine Ev.bind hs ?_
  rcases Int.lt_or_le v 0 with hneg | hpos
  · exact Ev.congr (fun k => by rw [if_pos hneg]) (Ev.now _)
  · rcases hv with hv | ⟨hl, hxl⟩
    · omega
    · obtain ⟨r, e1, e2⟩ := least_same a0 l hl (fun x m => ⟨hxl x m, (hx x m).2⟩)
      have et := toWordS_ev l hl hxl
      refine Ev.congr (fun k => by rw [if_neg (by omega)]) (Ev.bind et (Ev.bind e1 (Ev.bind et (Ev.bind e2 ?_))))
      refine Ev.congr (f := fun k => laws_FnExactLeastApartOf.j0 k l l false) (fun k => by rw [if_pos rfl, bne_self_eq_false]) ?_
      refine Ev.step (f := fun k => (laws_toWordS.f k l).bind fun t167 => ((laws_eqWordS.f k l t167).bind fun t170 => (if t170 = true then (some true) else (some false)))) (fun k => rfl) ?_
      exact Ev.bind et (Ev.bind (eqWordS_ev l hl hxl) (Ev.now _))

end Go.Proofs.Ytabdpdnofljkcaa.Pure
