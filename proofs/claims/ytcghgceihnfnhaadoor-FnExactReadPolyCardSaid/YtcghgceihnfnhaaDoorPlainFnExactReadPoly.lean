/- The law ReadPoly answers true, as a statement on bytes and numbers. -/
import Derived.Test.YtcghgceihnfnhaaDoorRFnExactReadPolyx2
import Derived.Test.YtcghgceihnfnhaaDoorN1
namespace Go.Proofs.YtcghgceihnfnhaaDoor.Pure
open Go.RowKit Go.Proofs.YtcghgceihnfnhaaDoor.RFnExactReadPoly Go.Proofs.YtcghgceihnfnhaaDoorW.PrintWords Go.Proofs.YtcghgceihnfnhaaDoorW.PrintLast Go.Proofs.YtcghgceihnfnhaaDoorW.PrintMore Go.Proofs.YtcghgceihnfnhaaDoor.NimF Go.Proofs.YtcghgceihnfnhaaDoor.NimGo Go.Proofs.YtcghgceihnfnhaaDoor.Given
theorem eqPoly_ev' (l : List Int) (h : l.length ≤ 1048577) : ∃ K, ∀ k, K ≤ k → laws_eqPoly.f k l l = some true :=
  eq_refl_ev (fun _ _ _ => rfl) (fun _ _ _ _ => rfl) l (by omega)

theorem markPoly_ev (l : List Int) (c : Int) (h0 : 0 ≤ c) (h : c + (l.length : Int) ≤ 4611686018427387900) : ∃ K, ∀ k, K ≤ k → laws_markPoly.f k l c = some (c + (l.length : Int), marks .u16 c l.length) :=
  mark_ev (fun _ _ _ => rfl) (fun _ _ _ _ => rfl) l c h0 h
theorem heldPoly_ev (n : Nat) (c : Int) (h0 : 0 ≤ c) (h : c + (n : Int) ≤ 4611686018427387900) : ∃ K, ∀ k, K ≤ k → laws_heldPoly.f k (marks .u16 c n) c = some (c + (n : Int)) :=
  held_ev (fun _ _ _ => rfl) (fun _ _ _ _ => rfl) n c h0 h

theorem bt_nat (s : ByteArray) (i : Nat) (h : i < s.size) : bt s (i : Int) = ((s.data.toList.getD i 0).toNat : Int) := by
  rw [← bt_at s (i : Int) (by rw [Int.toNat_natCast]; exact h)]
  have e : s[((i : Int)).toNat]'(by rw [Int.toNat_natCast]; exact h) = s[i] := by congr 1
  rw [e]
  have h2 : i < s.data.toList.length := by rw [bsz]; exact h
  rw [List.getD_eq_getElem?_getD, List.getElem?_eq_getElem h2, Option.getD_some, Array.getElem_toList]
  rfl
theorem drop_cons (s : ByteArray) (i : Nat) (h : i < s.size) : s.data.toList.drop i = s.data.toList.getD i 0 :: s.data.toList.drop (i + 1) := by
  have h2 : i < s.data.toList.length := by rw [bsz]; exact h
  rw [List.drop_eq_getElem_cons h2, List.getD_eq_getElem?_getD, List.getElem?_eq_getElem h2, Option.getD_some]
theorem u8_eq {c : UInt8} {n : Nat} (hn : n < 256) (h : c.toNat = n) : c = UInt8.ofNat n := by
  apply UInt8.toNat_inj.1
  rw [h, UInt8.toNat_ofNat']
  omega
theorem p10_le {i : Nat} (h : i ≤ 10) : 10 ^ i ≤ 10000000000 := by
  have h1 : 10 ^ i ≤ 10 ^ 10 := Nat.pow_le_pow_right (by omega) h
  have h2 : (10 : Nat) ^ 10 = 10000000000 := by simp
  omega
theorem step10 (n c : Nat) (hn : n < 10000000000) (h1 : 48 ≤ c) (h2 : c ≤ 57) : wrap64 (wrap64 (10 * (n : Int)) + ((c : Int) - 48) % 256) = ((10 * n + (c - 48) : Nat) : Int) := by
  have e : ((c : Int) - 48) % 256 = ((c - 48 : Nat) : Int) := by omega
  rw [e, w64i (x := 10 * (n : Int)) (by omega) (by omega), w64i (by omega) (by omega)]
  omega
def numR (l : List UInt8) : Int × Bool := if isNum l = true then ((valL l : Int), true) else (0, false)
theorem number_loop (s : ByteArray) (hs : s.size ≤ 10) : ∀ (d i n : Nat), i + d = s.size → n < 10 ^ i →
    Ev (fun k => spec_l01Number.l0 k s (n : Int) (i : Int)) (if (s.data.toList.drop i).all isDg = true then ((valA n (s.data.toList.drop i) : Int), true) else (0, false)) := by
  intro d
  induction d with
  | zero =>
    intro i n hi hn
    have e : s.data.toList.drop i = [] := List.drop_eq_nil_of_le (by rw [bsz]; omega)
    rw [e]
    refine Ev.step (f := fun _ => some ((n : Int), true)) (fun k => ?_) (Ev.now _)
    simp only [spec_l01Number.l0]
    rw [if_neg (by omega)]
  | succ d ih =>
    intro i n hi hn
    have h10 : n < 10000000000 := Nat.lt_of_lt_of_le hn (p10_le (by omega))
    rw [drop_cons s i (by omega)]
    have hb := bt_nat s i (by omega)
    obtain ⟨c, hc⟩ : ∃ c, s.data.toList.getD i 0 = c := ⟨_, rfl⟩
    rw [hc] at hb ⊢
    have hc255 : c.toNat < 256 := c.toNat_lt
    by_cases hd : isDg c = true
    · have hd2 := of_decide_eq_true hd
      have hn2 : 10 * n + (c.toNat - 48) < 10 ^ (i + 1) := by rw [Nat.pow_succ]; omega
      have e := ih (i + 1) (10 * n + (c.toNat - 48)) (by omega) hn2
      have e2 : (c :: s.data.toList.drop (i + 1)).all isDg = (s.data.toList.drop (i + 1)).all isDg := by rw [List.all_cons, hd, Bool.true_and]
      rw [e2]
      have e3 : valA n (c :: s.data.toList.drop (i + 1)) = valA (10 * n + (c.toNat - 48)) (s.data.toList.drop (i + 1)) := rfl
      rw [e3]
      refine Ev.step (f := fun k => spec_l01Number.l0 k s ((10 * n + (c.toNat - 48) : Nat) : Int) ((i + 1 : Nat) : Int)) (fun k => ?_) e
      simp only [spec_l01Number.l0, hb]
      rw [if_pos (by omega), if_pos (by omega), if_neg (by omega), if_neg (by omega), w64s (by omega), step10 n c.toNat h10 hd2.1 hd2.2]
    · have e2 : (c :: s.data.toList.drop (i + 1)).all isDg = false := by rw [List.all_cons, Bool.not_eq_true _ |>.mp hd, Bool.false_and]
      rw [e2]
      have hd2 : ¬ (48 ≤ c.toNat ∧ c.toNat ≤ 57) := fun h => hd (decide_eq_true h)
      refine Ev.step (f := fun _ => some (0, false)) (fun k => ?_) (Ev.now _)
      simp only [spec_l01Number.l0, hb]
      rw [if_pos (by omega), if_pos (by omega)]
      by_cases h1 : c.toNat < 48
      · rw [if_pos (by omega)]
      · rw [if_neg (by omega), if_pos (by omega)]
theorem number_ev (s : ByteArray) : Ev (fun k => spec_l01Number.f k s) (numR s.data.toList) := by
  unfold numR
  by_cases h0 : s.data.toList = []
  · have e : isNum s.data.toList = false := by unfold isNum; rw [h0]; rfl
    rw [e]
    refine Ev.step (f := fun _ => some (0, false)) (fun k => ?_) (Ev.now _)
    simp only [spec_l01Number.f]
    rw [if_pos (by rw [ByteArray.toList_eq]; exact h0), spec_l01Number.j0, if_pos rfl]
  have hpos : 0 < s.size := by rw [← bsz]; exact List.length_pos_iff.2 h0
  have hne : ¬ s.toList = [] := by rw [ByteArray.toList_eq]; exact h0
  by_cases h10 : s.size ≤ 10
  · have hb := bt_nat s 0 hpos
    have hh : s.data.toList.headD 0 = s.data.toList.getD 0 0 := by
      cases hq : s.data.toList with
      | nil => rfl
      | cons x r => rfl
    have key : isNum s.data.toList = true ↔ (s.data.toList.getD 0 0 = 48 → s.size ≤ 1) ∧ s.data.toList.all isDg = true := by
      unfold isNum
      rw [Bool.and_eq_true, decide_eq_true_iff, hh, bsz]
      exact ⟨fun h => ⟨h.1.2.2, h.2⟩, fun h => ⟨⟨h0, h10, h.1⟩, h.2⟩⟩
    have hl := number_loop s h10 s.size 0 0 (by omega) (by simp)
    rw [List.drop_zero] at hl
    by_cases hz : s.data.toList.getD 0 0 = 48 ∧ 1 < s.size
    · have e : ¬ (isNum s.data.toList = true) := fun h => by have := (key.1 h).1 hz.1; omega
      rw [if_neg e]
      refine Ev.step (f := fun _ => some (0, false)) (fun k => ?_) (Ev.now _)
      simp only [spec_l01Number.f]
      have e48 : bt s 0 = 48 := by have := hb; rw [hz.1] at this; exact this
      rw [if_neg hne, if_neg (by omega), if_pos (by omega), if_pos e48, spec_l01Number.j0, if_pos (decide_eq_true (by omega))]
    · have e : (if isNum s.data.toList = true then ((valL s.data.toList : Int), true) else (0, false)) = (if s.data.toList.all isDg = true then ((valA 0 s.data.toList : Int), true) else (0, false)) := by
        by_cases ha : s.data.toList.all isDg = true
        · have hk : s.data.toList.getD 0 0 = 48 → s.size ≤ 1 := fun h => by
            have : ¬ 1 < s.size := fun h2 => hz ⟨h, h2⟩
            omega
          rw [if_pos ha, if_pos (key.2 ⟨hk, ha⟩)]
          rfl
        · rw [if_neg ha, if_neg (fun h => ha (key.1 h).2)]
      rw [e]
      refine Ev.step (f := fun k => spec_l01Number.l0 k s 0 0) (fun k => ?_) hl
      simp only [spec_l01Number.f]
      rw [if_neg hne, if_neg (by omega), if_pos (by omega)]
      by_cases h48 : bt s 0 = 48
      · have h48' : s.data.toList.getD 0 0 = 48 := by
          have h2 : ((s.data.toList.getD 0 0).toNat : Int) = 48 := by rw [← hb]; exact h48
          exact u8_eq (n := 48) (by omega) (by omega)
        have : ¬ 1 < s.size := fun h => hz ⟨h48', h⟩
        rw [if_pos h48, spec_l01Number.j0, if_neg (by rw [decide_eq_false (by omega)]; simp)]
      · rw [if_neg h48, spec_l01Number.j0, if_neg (by simp)]
  · have e : ¬ (isNum s.data.toList = true) := by
      unfold isNum
      rw [Bool.and_eq_true, decide_eq_true_iff, bsz]
      exact fun h => h10 h.1.2.1
    rw [if_neg e]
    refine Ev.step (f := fun _ => some (0, false)) (fun k => ?_) (Ev.now _)
    simp only [spec_l01Number.f]
    rw [if_neg hne, if_pos (by omega), spec_l01Number.j0, if_pos rfl]
def toRR : Option Nat → Int × Bool | some n => ((n : Int), true) | none => (0, false)
theorem read_ev (s : ByteArray) : Ev (fun k => spec_l01Read.f k s) (toRR (readN s.data.toList)) := by
  have hb := fun h => bt_nat s 0 h
  have hh : s.data.toList.headD 0 = s.data.toList.getD 0 0 := by
    cases hq : s.data.toList with
    | nil => rfl
    | cons x r => rfl
  have nope : readN s.data.toList = none → (∀ k, spec_l01Read.f (k + 1) s = some (0, false)) → Ev (fun k => spec_l01Read.f k s) (toRR (readN s.data.toList)) := fun h1 h2 => by
    rw [h1]
    exact Ev.step (f := fun _ => some (0, false)) h2 (Ev.now _)
  by_cases h2 : s.size < 2
  · refine nope ?_ (fun k => ?_)
    · unfold readN
      split
      · have e : s.data.toList.tail = [] := by
          rw [← List.length_eq_zero_iff, List.length_tail, bsz]; omega
        rw [e]; rfl
      · rfl
    · simp only [spec_l01Read.f]
      rw [if_pos (by omega), spec_l01Read.j0, if_pos rfl]
  · have hb0 := hb (by omega)
    by_cases h42 : s.data.toList.getD 0 0 = 42
    · have eb : (bt s 0 != 42) = false := by
        have : bt s 0 = 42 := by have := hb0; rw [h42] at this; exact this
        rw [this]; rfl
      have er : readN s.data.toList = numL s.data.toList.tail := by unfold readN; rw [hh, if_pos h42]
      have ex : (s.extract 1 s.size).data.toList = s.data.toList.tail := by rw [Lib.extract_to_end]; rw [List.drop_one]
      have hn := number_ev (s.extract 1 s.size)
      rw [ex] at hn
      rw [er]
      refine Ev.step (f := fun k => (spec_l01Number.f k (s.extract 1 s.size)).bind fun bt110 => (if bt110.2 = true then (if bt110.1 > 65535 then (some (0, false)) else (some (IntKind.u16.wrap (bt110.1), true))) else (some (0, false)))) (fun k => ?_) (Ev.bind hn ?_)
      · simp only [spec_l01Read.f]
        rw [if_neg (by omega), if_pos (by omega), eb, spec_l01Read.j0, if_neg (by simp), if_pos (by omega)]
      · refine Ev.congr (fun k => ?_) (Ev.now _)
        unfold numR numL
        by_cases h1 : isNum s.data.toList.tail = true
        · rw [if_pos h1]
          simp only [if_true]
          by_cases hv : valL s.data.toList.tail ≤ 65535
          · rw [if_neg (by omega), if_pos ⟨h1, hv⟩]
            have : IntKind.u16.wrap (valL s.data.toList.tail : Int) = (valL s.data.toList.tail : Int) := by
              simp only [IntKind.wrap, IntKind.bits, IntKind.signed]
              simp
              omega
            rw [this]; rfl
          · rw [if_pos (by omega), if_neg (fun h => hv h.2)]; rfl
        · rw [if_neg h1]; simp only [Bool.false_eq_true, if_false]; rw [if_neg (fun h => h1 h.1)]; rfl
    · refine nope ?_ (fun k => ?_)
      · unfold readN; rw [hh, if_neg h42]
      · have eb : (bt s 0 != 42) = true := by
          rw [bne_iff_ne]
          intro h
          apply h42
          have h2 : ((s.data.toList.getD 0 0).toNat : Int) = 42 := by rw [← hb0]; exact h
          exact u8_eq (n := 42) (by omega) (by omega)
        simp only [spec_l01Read.f]
        rw [if_neg (by omega), if_pos (by omega), eb, spec_l01Read.j0, if_pos rfl]
def spA (acc : List UInt8) (l : List UInt8) : List (List UInt8) := match splitC 32 l with | x :: r => (acc ++ x) :: r | [] => [acc]
theorem spA_hit (acc l : List UInt8) : spA acc (32 :: l) = acc :: spA [] l := by
  unfold spA
  simp only [splitC]
  cases hq : splitC 32 l with
  | nil => exact absurd hq (splitC_ne _ _)
  | cons x r => simp
theorem spA_miss (acc l : List UInt8) (c : UInt8) (h : c ≠ 32) : spA acc (c :: l) = spA (acc ++ [c]) l := by
  unfold spA
  simp only [splitC, if_neg h]
  cases hq : splitC 32 l with
  | nil => exact absurd hq (splitC_ne _ _)
  | cons x r => simp
theorem split_loop (s : ByteArray) (hs : s.size ≤ 1048576) : ∀ (d i b : Nat) (out : List ByteArray), i + d = s.size → b ≤ i → out.length ≤ i →
    ∃ r : List ByteArray, Ev (fun k => spec_l01Split.l0 k s 32 out (b : Int) (i : Int)) r ∧ r.map (·.data.toList) = out.map (·.data.toList) ++ spA ((s.data.toList.take i).drop b) (s.data.toList.drop i) := by
  intro d
  induction d with
  | zero =>
    intro i b out hi hb ho
    refine ⟨out ++ [s.extract b s.size], Ev.step (f := fun _ => some (out ++ [s.extract b s.size])) (fun k => ?_) (Ev.now _), ?_⟩
    · simp only [spec_l01Split.l0]
      rw [if_neg (by omega), if_pos (by omega), if_pos (by omega), if_pos (by omega), Int.toNat_natCast]
    · have e : s.data.toList.drop i = [] := List.drop_eq_nil_of_le (by rw [bsz]; omega)
      have e2 : s.data.toList.take i = s.data.toList := List.take_of_length_le (by rw [bsz]; omega)
      rw [e, e2, List.map_append, List.map_cons, List.map_nil, Lib.extract_to_end]
      simp [spA, splitC]
  | succ d ih =>
    intro i b out hi hb ho
    rw [drop_cons s i (by omega)]
    have hbt := bt_nat s i (by omega)
    have htk : s.data.toList.take (i + 1) = s.data.toList.take i ++ [s.data.toList.getD i 0] := by
      have h2 : i < s.data.toList.length := by rw [bsz]; omega
      rw [List.take_add_one, List.getElem?_eq_getElem h2, List.getD_eq_getElem?_getD, List.getElem?_eq_getElem h2]
      rfl
    obtain ⟨c, hc⟩ : ∃ c, s.data.toList.getD i 0 = c := ⟨_, rfl⟩
    rw [hc] at hbt htk ⊢
    by_cases h32 : c = 32
    · subst h32
      obtain ⟨r, h1, h2⟩ := ih (i + 1) (i + 1) (out ++ [s.extract b i]) (by omega) (Nat.le_refl _) (by simp; omega)
      refine ⟨r, Ev.step (f := fun k => spec_l01Split.l0 k s 32 (out ++ [s.extract b i]) ((i + 1 : Nat) : Int) ((i + 1 : Nat) : Int)) (fun k => ?_) h1, ?_⟩
      · simp only [spec_l01Split.l0, hbt]
        rw [if_pos (by omega), if_pos (by omega), if_pos (by rfl), if_pos (by omega), if_pos (by omega), if_pos (by omega), if_pos (by omega), w64s (by omega), Int.toNat_natCast, Int.toNat_natCast]
      · rw [h2, spA_hit, List.map_append, List.append_assoc]
        congr 1
        have e : (s.data.toList.take (i + 1)).drop (i + 1) = [] := List.drop_eq_nil_of_le (by rw [List.length_take]; omega)
        rw [e]
        simp only [List.map_cons, List.map_nil, List.singleton_append]
        congr 1
        rw [Lib.extract_data, List.drop_take]
    · obtain ⟨r, h1, h2⟩ := ih (i + 1) b out (by omega) (by omega) (by omega)
      have hne : ¬ ((c.toNat : Int) = 32) := fun h => h32 (u8_eq (n := 32) (by omega) (by omega))
      refine ⟨r, Ev.step (f := fun k => spec_l01Split.l0 k s 32 out (b : Int) ((i + 1 : Nat) : Int)) (fun k => ?_) h1, ?_⟩
      · simp only [spec_l01Split.l0, hbt]
        rw [if_pos (by omega), if_pos (by omega), if_neg hne, w64s (by omega)]
      · rw [h2, spA_miss _ _ _ h32, htk, List.drop_append_of_le_length (by rw [List.length_take, bsz]; omega)]
theorem split_ev (s : ByteArray) (hs : s.size ≤ 1048576) : ∃ r : List ByteArray, Ev (fun k => spec_l01Split.f k s 32) r ∧ r.map (·.data.toList) = splitC 32 s.data.toList := by
  obtain ⟨r, h1, h2⟩ := split_loop s hs s.size 0 0 [] (by omega) (Nat.le_refl _) (by simp)
  refine ⟨r, h1, ?_⟩
  rw [h2, List.drop_zero]
  unfold spA
  cases hq : splitC 32 s.data.toList with
  | nil => exact absurd hq (splitC_ne _ _)
  | cons x r => simp [hq]
def toLR : Option (List Int) → List Int × Bool | some l => (l, true) | none => ([], false)
theorem readList_loop (ws : List ByteArray) (hw : ws.length ≤ 1048577) : ∀ (d i : Nat) (acc : List Int), i + d = ws.length → acc.length = i →
    Ev (fun k => spec_l01ReadList.l0 k acc ws (i : Int)) (toLR (readAcc acc ((ws.drop i).map (·.data.toList)))) := by
  intro d
  induction d with
  | zero =>
    intro i acc hi ha
    rw [List.drop_eq_nil_of_le (by omega)]
    refine Ev.step (f := fun _ => some (acc, true)) (fun k => ?_) (Ev.now _)
    simp only [spec_l01ReadList.l0]
    rw [if_neg (by omega)]
  | succ d ih =>
    intro i acc hi ha
    have hlt : i < ws.length := by omega
    rw [List.drop_eq_getElem_cons hlt, List.map_cons]
    have hrd : rdOf ByteArray.empty ws (i : Int) = ws[i] := by simp [rdOf, List.getElem?_eq_getElem hlt]
    have hr := read_ev ws[i]
    cases hq : readN ws[i].data.toList with
    | none =>
      rw [hq] at hr
      have e : readAcc acc (ws[i].data.toList :: (ws.drop (i + 1)).map (·.data.toList)) = none := by rw [readAcc, hq]
      rw [e]
      refine Ev.step (f := fun k => (spec_l01Read.f k ws[i]).bind fun bt119 => (if bt119.2 = true then (if acc.length < 70368744177664 then (spec_l01ReadList.l0 k (acc ++ [bt119.1]) ws (wrap64 ((i : Int) + 1))) else (none)) else (some ((([] : List Int)), false)))) (fun k => ?_) (Ev.bind hr ?_)
      · simp only [spec_l01ReadList.l0]
        rw [if_pos (by omega), if_pos (by omega), hrd]
      · exact Ev.congr (fun k => rfl) (Ev.now _)
    | some n =>
      rw [hq] at hr
      have e : readAcc acc (ws[i].data.toList :: (ws.drop (i + 1)).map (·.data.toList)) = readAcc (acc ++ [(n : Int)]) ((ws.drop (i + 1)).map (·.data.toList)) := by rw [readAcc, hq]
      rw [e]
      refine Ev.step (f := fun k => (spec_l01Read.f k ws[i]).bind fun bt119 => (if bt119.2 = true then (if acc.length < 70368744177664 then (spec_l01ReadList.l0 k (acc ++ [bt119.1]) ws (wrap64 ((i : Int) + 1))) else (none)) else (some ((([] : List Int)), false)))) (fun k => ?_) (Ev.bind hr ?_)
      · simp only [spec_l01ReadList.l0]
        rw [if_pos (by omega), if_pos (by omega), hrd]
      · refine Ev.congr (f := fun k => spec_l01ReadList.l0 k (acc ++ [(n : Int)]) ws ((i + 1 : Nat) : Int)) (fun k => ?_) (ih (i + 1) (acc ++ [(n : Int)]) (by omega) (by simp [ha]))
        simp only [toRR, if_true]
        rw [if_pos (by omega), w64s (by omega)]
theorem readList_ev (s : ByteArray) (hs : s.size ≤ 1048576) : Ev (fun k => spec_l01ReadList.f k s) (toLR (readL s.data.toList)) := by
  by_cases h0 : s.data.toList = []
  · have e : readL s.data.toList = some [] := by unfold readL; rw [if_pos h0]
    rw [e]
    refine Ev.congr (fun k => ?_) (Ev.now _)
    simp only [spec_l01ReadList.f, Option.bind_some]
    rw [if_pos (by rw [ByteArray.toList_eq]; exact h0)]
    rfl
  · have e : readL s.data.toList = readAcc [] (splitC 32 s.data.toList) := by unfold readL; rw [if_neg h0]
    obtain ⟨ws, h1, h2⟩ := split_ev s hs
    have hl : ws.length ≤ 1048577 := by
      have h3 := congrArg List.length h2
      rw [List.length_map] at h3
      rw [h3]
      have := splitC_count 32 s.data.toList
      rw [bsz] at this
      omega
    have h3 := readList_loop ws hl ws.length 0 [] (by omega) rfl
    rw [List.drop_zero, h2, ← e] at h3
    refine Ev.congr (f := fun k => (spec_l01Split.f k s 32).bind fun t115 => (spec_l01ReadList.l0 k [] t115 0)) (fun k => ?_) (Ev.bind h1 h3)
    simp only [spec_l01ReadList.f, Option.bind_some]
    rw [if_neg (by rw [ByteArray.toList_eq]; exact h0)]
theorem readL_len {t : List UInt8} {l : List Int} (h : readL t = some l) : l.length ≤ t.length + 1 := by
  unfold readL at h
  split at h
  · obtain rfl := Option.some.inj h; simp
  · rw [readAcc_bound _ _ _ h]
    have := splitC_count 32 t
    simp; omega

theorem spec_ok' (l : List Int) (h : l.length ≤ 1048577) : spec_l05Ok.f l = some (vpol l) := by
  unfold spec_l05Ok.f vpol
  by_cases h0 : l.length = 0
  · rw [if_pos (by omega), h0]; rfl
  · rw [if_neg (by omega)]
    have hb : (l.length == 0) = false := by simpa using h0
    have hw : wrap64 ((l.length : Int) - 1) = ((l.length - 1 : Nat) : Int) := by unfold wrap64; omega
    by_cases h21 : l.length ≤ 21
    · rw [if_pos (by omega), hw, if_pos (by omega), if_pos (by omega), rd_nat, hb, decide_eq_true h21]; rfl
    · rw [if_neg (by omega), hb, decide_eq_false h21]; rfl
theorem specPoly_ev (s : ByteArray) (hs : s.size ≤ 1048576) : Ev (fun k => spec_ReadPoly.f k s) (pL s.data.toList) := by
  unfold pL
  by_cases h48 : s.data.toList = [48]
  · rw [if_pos h48]
    refine Ev.congr (fun k => ?_) (Ev.now _)
    unfold spec_ReadPoly.f
    rw [if_pos (by rw [ByteArray.toList_eq]; exact h48)]
  · rw [if_neg h48]
    have h := readList_ev s hs
    have hl : ∀ l, readL s.data.toList = some l → l.length ≤ 1048577 := fun l hq => by have := readL_len hq; rw [bsz] at this; omega
    refine Ev.congr (f := fun k => (spec_l01ReadList.f k s).bind fun bt131 => (if bt131.2 = true then (if (bt131.1.length : Int) = 0 then (some ((([] : List Int)), 5)) else ((spec_l05Ok.f bt131.1).bind fun t138 => (if t138 = true then (some (bt131.1, 0)) else (some ((([] : List Int)), 5))))) else (some ((([] : List Int)), 5)))) (fun k => ?_) (Ev.bind h ?_)
    · unfold spec_ReadPoly.f
      rw [if_neg (by rw [ByteArray.toList_eq]; exact h48)]
    · cases hq : readL s.data.toList with
      | none => exact Ev.congr (fun k => rfl) (Ev.now _)
      | some l =>
        refine Ev.congr (fun k => ?_) (Ev.now _)
        show (if (l.length : Int) = 0 then (some ((([] : List Int)), (5 : Int))) else ((spec_l05Ok.f l).bind fun t138 => (if t138 = true then (some (l, 0)) else (some ((([] : List Int)), 5))))) = some (toPL (some l))
        unfold toPL
        by_cases h0 : l.length = 0
        · rw [if_pos (by omega)]
          simp only []
          rw [if_pos h0]
        · rw [if_neg (by omega), spec_ok' l (hl l hq), Option.bind_some]
          simp only []
          rw [if_neg h0]
          cases vpol l <;> rfl
theorem FnExactReadPoly : laws_FnExactReadPoly.Pure := by
  intro s _
  by_cases hb : (s.size : Int) > 1048576
  · exact ⟨0, by unfold laws_FnExactReadPoly.f; rw [if_pos hb]⟩
  have hs : s.size ≤ 1048576 := by omega
  obtain ⟨K5, h5⟩ := specPoly_ev s hs
  have h6 : impl_ReadPoly.f s = some (pL s.data.toList) := by unfold impl_ReadPoly.f; rw [if_pos hs]
  obtain ⟨X, hX⟩ : ∃ X, pL s.data.toList = X := ⟨_, rfl⟩
  have hr : X.1.length ≤ 1048577 := by
    rw [← hX]
    unfold pL
    split
    · simp
    · cases hq : readL s.data.toList with
      | none => simp [toPL]
      | some l =>
        have := readL_len hq
        rw [bsz] at this
        unfold toPL
        simp only []
        split
        · simp
        · split
          · simp only []; omega
          · simp
  rw [hX] at h5 h6
  obtain ⟨r, c⟩ := X
  simp only [] at hr
  obtain ⟨K7, h7⟩ := eqPoly_ev' r (by omega)
  obtain ⟨K9, h9⟩ := markPoly_ev r 1 (by omega) (by omega)
  obtain ⟨K10, h10⟩ := heldPoly_ev r.length 1 (by omega) (by omega)
  obtain ⟨K, hK⟩ : ∃ K, K = K5 + K7 + K9 + K10 := ⟨_, rfl⟩
  have n2 : ¬ (1 + (r.length : Int) < 0) := by omega
  refine ⟨K + 3, ?_⟩
  unfold laws_FnExactReadPoly.f
  rw [if_neg hb]
  simp only [Option.bind_some, h5 (K + 3) (by omega), h6, h7 (K + 3) (by omega), if_true, bne_self_eq_false, laws_FnExactReadPoly.j0, h9 (K + 2) (by omega), h10 (K + 2) (by omega), n2, if_false, h7 (K + 2) (by omega), laws_FnExactReadPoly.j1, h10 (K + 1) (by omega), Bool.false_eq_true]

end Go.Proofs.YtcghgceihnfnhaaDoor.Pure
