/- The circuit of a sum, as the givens say it. -/
import Derived.Test.YthjbeglmdifhdaaProg
import Derived.Below
import Derived.Deep.Draws
import Derived.Deep.AppendLies
import Derived.Maps.AppendAt
import Derived.OwnWalk
import Derived.Laws.BytesArg
import Derived.Laws.MakeOwn
import Derived.Laws.OwnMore
import Derived.Deep.OwnRows
import Derived.Tactics
import Derived.Lib.ConvBytes
import Derived.Laws.Slices
import Derived.WalkKit
import Derived.KernelRfl
import Derived.RowKit3
import Derived.Deep.LoopGhost
import Derived.Deep.QuietTactic
import Derived.BigQuiet
import Derived.WideLaws
import Derived.Deep.DeepCutAuto
import Derived.Deep.CutBlock
import Derived.Deep.RegionHeld3
import Derived.Laws.Rows
import Derived.Lib.AppendStr
import Derived.ArgAppend
import Derived.Laws.IdiomCopy
import Derived.OrdersHeld
import Derived.Laws.BitsLemmas
import Derived.RowKit
import Derived.Lib.Hide
import Derived.WalkSpells
import Derived.Test.YthjbeglmdifhdaaWWords
import Derived.Test.YthjbeglmdifhdaaWLast
import Derived.Test.YthjbeglmdifhdaaWTab
import Derived.Test.YthjbeglmdifhdaaWFour
import Derived.Test.YthjbeglmdifhdaaWQPut
import Derived.Test.YthjbeglmdifhdaaWApart
import Derived.Test.YthjbeglmdifhdaaWArr
import Derived.Test.YthjbeglmdifhdaaWZeros
import Derived.Test.YthjbeglmdifhdaaWFoot
import Derived.Test.YthjbeglmdifhdaaWKept
import Derived.Test.YthjbeglmdifhdaaWShare
import Derived.Test.YthjbeglmdifhdaaWN
import Derived.Test.YthjbeglmdifhdaaWFootNe
import Derived.Test.YthjbeglmdifhdaaWAt
import Derived.Test.YthjbeglmdifhdaaWEqStruct
import Derived.Test.YthjbeglmdifhdaaWRepsOne
import Derived.Test.YthjbeglmdifhdaaWInv
import Derived.Test.YthjbeglmdifhdaaWInvWords
import Derived.Test.YthjbeglmdifhdaaWGuard
import Derived.Test.YthjbeglmdifhdaaWNEv
import Derived.Test.YthjbeglmdifhdaaWMore
import Derived.Test.YthjbeglmdifhdaaN1
import Derived.Test.YthjbeglmdifhdaaPD
import Derived.Lib.SmallJoins
namespace Go.Proofs.Ythjbeglmdifhdaa.Given
open Go.RowKit Go.Proofs.YthjbeglmdifhdaaW.PrintWords Go.Proofs.YthjbeglmdifhdaaW.PrintLast Go.Proofs.YthjbeglmdifhdaaW.PrintMore Go.Proofs.Ythjbeglmdifhdaa.NimF Go.Proofs.Ythjbeglmdifhdaa.NimGo
set_option linter.unusedVariables false
set_option linter.unusedSimpArgs false
open Go.Proofs.Ythjbeglmdifhdaa.RFnExactPlusCircuit
set_option maxHeartbeats 1000000 in
set_option maxRecDepth 100000 in
theorem forTwo_no (L : Int) (hL : ¬ (0 ≤ L ∧ L ≤ 3)) (w : World) :
    Calls Try.prog 70 #[.int .i64 L, .func (.func 71) #[] #[]] w fun e w' => ∃ v1 v2 : Value, e = .returned (.tuple #[.agg #[.int .i8 0, v1, v2], .int .i64 2]) ∧ Kd.R k96 96 w' w.heap.size (fun _ => True) v1 [] ∧ (Kd.int .i16).R 94 w' w.heap.size (fun _ => True) v2 [] ∧ Below w.heap.size w w' := by
  have HW := fun w => Lib.hid (within_calls L 0 3 false w (by rcases Classical.not_and_iff_not_or_not.1 hL with h | h <;> simp [h]))
  have HZZ : Hid ((0 : Int) = 0) := Lib.hid rfl
  clear hL
  go_enter Try.func70, Try.ntmps70
  go_wp2_with (first
    | (go_at_call 40; refine (HW _).out.mono ?_; rintro e w' ⟨rfl, hw_⟩; have hw2_ := hw_.symm; clear hw_; subst hw2_))
  exact bodyPost_ret (v := .tuple #[.agg #[.int .i8 0, .slice none 0 0, .slice none 0 0], .int .i64 2]) (by simp [results, Try.results70, go_sem]) rfl ⟨_, _, rfl, Kd.R_nil _ _ _ _ _, Kd.R_nil _ _ _ _ _, Go.Joins.below_alloc1 w _⟩
def plusN (a0 : Int) : Nat := if a0 = 0 then 1 else if a0 = 1 then 2 else if a0 = 2 then 4 else 8
def plusF (a0 : Int) : Option (Int × List S96 × List Int × Int) := if 0 ≤ a0 ∧ a0 ≤ 3 then some (((2 * plusN a0 : Nat) : Int), plusG (plusN a0), plusO (plusN a0), 0) else some (0, [], [], 2)
theorem plusN_isLv {a0 : Int} (h : 0 ≤ a0 ∧ a0 ≤ 3) : isLv a0.toNat (plusN a0) := by
  have : a0 = 0 ∨ a0 = 1 ∨ a0 = 2 ∨ a0 = 3 := by omega
  rcases this with rfl | rfl | rfl | rfl <;> simp [isLv, plusN]
namespace impl_PlusCircuit
def f (a0 : Int) : Option (Int × List S96 × List Int × Int) := plusF a0
theorem two (a0 : Int) (r1 : Int) (r2 : List S96) (r3 : List Int) (r4 : Int) (w : World) (h : f a0 = some (r1, r2, r3, r4)) : Calls Try.prog 70 #[.int .i64 a0, .func (.func 71) #[] #[]] w fun e w' => ∃ v1 v2 : Value, e = .returned (.tuple #[.agg #[.int .i8 r1, v1, v2], .int .i64 r4]) ∧ Kd.R k96 96 w' w.heap.size (fun _ => True) v1 r2 ∧ (Kd.int .i16).R 94 w' w.heap.size (fun _ => True) v2 r3 ∧ Below w.heap.size w w' := by
  by_cases hL : 0 ≤ a0 ∧ a0 ≤ 3
  · unfold f plusF at h
    rw [if_pos hL] at h
    simp only [Option.some.injEq, Prod.mk.injEq] at h
    obtain ⟨rfl, rfl, rfl, rfl⟩ := h
    have := forTwo_yes a0.toNat (plusN a0) (plusN_isLv hL) w
    rw [Int.toNat_of_nonneg hL.1] at this
    exact this
  · unfold f plusF at h
    rw [if_neg hL] at h
    simp only [Option.some.injEq, Prod.mk.injEq] at h
    obtain ⟨rfl, rfl, rfl, rfl⟩ := h
    exact forTwo_no a0 hL w
set_option maxHeartbeats 1000000 in
set_option maxRecDepth 100000 in
theorem calls (a0 : Int) (r1 : Int) (r2 : List S96) (r3 : List Int) (r4 : Int) (w : World) (h : f a0 = some (r1, r2, r3, r4)) : Calls Try.prog 35 #[.int .i64 a0] w fun e w' => ∃ v1 v2 : Value, e = .returned (.tuple #[.agg #[.int .i8 r1, v1, v2], .int .i64 r4]) ∧ Kd.R k96 96 w' w.heap.size (fun _ => True) v1 r2 ∧ (Kd.int .i16).R 94 w' w.heap.size (fun _ => True) v2 r3 ∧ Below w.heap.size w w' := by
  have HT := fun w => Lib.hid (two a0 r1 r2 r3 r4 w h)
  clear h
  go_enter Try.func35, Try.ntmps35
  go_wp2_with (first
    | (go_at_call 70; with_reducible refine (HT _).out.mono ?_; rintro e W2 ⟨v1, v2, rfl, hR, hO, hb⟩; obtain ⟨A1, c1, ev⟩ := Kd.R_slice hR; subst ev; obtain ⟨A2, c2, ev⟩ := Kd.R_slice hO; subst ev; have HR := Lib.hid hR; have HO := Lib.hid hO; have HBB := Lib.hid hb; clear hR hO hb HT; have HZ : Hid (W2.heap[w.heap.size]? = some (.cells #[.int .i8 0, .slice none 0 0, .slice none 0 0] 63 (0, 0))) := Lib.hid (by rw [HBB.out.block _ (by simp)]; simp only [World.alloc]; exact Array.getElem?_push_size); have HB2 : Hid (Below w.heap.size w W2) := Lib.hid ((Go.Joins.below_alloc1 w _).trans (HBB.out.mono (by simp))); refine Hid.out ?_))
  refine Lib.hid ?_
  obtain ⟨q1, hq1⟩ : ∃ q, r2.length = q := ⟨_, rfl⟩
  obtain ⟨q2, hq2⟩ : ∃ q, r3.length = q := ⟨_, rfl⟩
  rw [hq1] at HR ⊢
  rw [hq2] at HO ⊢
  have z0 := Go.Joins.cell_of_block HZ.out 0
  have z1 := Go.Joins.cell_of_block HZ.out 1
  have z2 := Go.Joins.cell_of_block HZ.out 2
  have f0 := Go.Joins.unfrozen_of_block HZ.out 0
  have f1 := Go.Joins.unfrozen_of_block HZ.out 1
  have f2 := Go.Joins.unfrozen_of_block HZ.out 2
  simp only [List.getElem?_toArray, List.getElem?_cons_zero, List.getElem?_cons_succ] at z0 z1 z2
  go_wp2
  obtain ⟨W5, hW5, d0, d1, d2, kB, kR, kO⟩ := three_set HZ.out (.int .i8 r1) (.slice A1 q1 c1) (.slice A2 q2 c2)
  rw [hW5]
  clear hW5 z0 z1 z2 f0 f1 f2
  refine bodyPost_ret (v := .tuple #[.agg #[.int .i8 r1, (.slice A1 q1 c1), (.slice A2 q2 c2)], .int .i64 r4]) (by simp [results, Try.results35, go_sem, d0, d1, d2]) rfl ⟨_, _, rfl, ?_, ?_, ?_⟩
  · exact kR _ _ _ _ (Kd.R_lower HR.out (by simp))
  · exact kO _ _ _ _ (Kd.R_lower HO.out (by simp))
  · exact kB _ _ (Nat.le_refl _) HB2.out
end impl_PlusCircuit
set_option maxHeartbeats 1000000 in
theorem level_calls (L : Int) (r : Bool) (w : World) (h : (decide (0 ≤ L) && decide (L ≤ 3)) = r) : Calls Try.prog 66 #[.int .i64 L] w fun e w' => e = .returned (.bool r) ∧ w' = w := by
  have HI := fun w => Lib.hid (l00In_calls L 0 3 r w h)
  clear h
  go_enter Try.func66, Try.ntmps66
  go_wp2_with (first
    | (go_at_call 38; refine (HI _).out.mono ?_; rintro e w' ⟨rfl, hw_⟩; have hw2_ := hw_.symm; clear hw_; subst hw2_))
  go_ret
  exact ⟨rfl, rfl⟩
set_option maxHeartbeats 1000000 in
theorem bits_calls (L n : Nat) (hL : isLv L n) (w : World) : Calls Try.prog 67 #[.int .i64 (L : Int)] w fun e w' => e = .returned (.int .i64 (n : Int)) ∧ w' = w := by
  have hp : wrap64 ((2 : Int) ^ L) = (n : Int) := by rcases hL with ⟨rfl, rfl⟩ | ⟨rfl, rfl⟩ | ⟨rfl, rfl⟩ | ⟨rfl, rfl⟩ <;> simp [wrap64]
  have gL0 : (0 : Int) ≤ (L : Int) := by omega
  have gL3 : (L : Int) ≤ 3 := by have := (isLv_le hL).1; omega
  clear hL
  go_enter Try.func67, Try.ntmps67
  go_wp2
  go_ret
  exact ⟨by rw [← hp]; rfl, rfl⟩
set_option maxHeartbeats 1000000 in
set_option maxRecDepth 100000 in
theorem spec_no (L : Int) (hL : ¬ (0 ≤ L ∧ L ≤ 3)) (w : World) :
    Calls Try.prog 34 #[.int .i64 L] w fun e w' => ∃ v1 v2 : Value, e = .returned (.tuple #[.agg #[.int .i8 0, v1, v2], .int .i64 2]) ∧ Kd.R k96 96 w' w.heap.size (fun _ => True) v1 [] ∧ (Kd.int .i16).R 94 w' w.heap.size (fun _ => True) v2 [] ∧ Below w.heap.size w w' := by
  have HW := fun w => Lib.hid (level_calls L false w (by rcases Classical.not_and_iff_not_or_not.1 hL with h | h <;> simp [h]))
  clear hL
  go_enter Try.func34, Try.ntmps34
  go_wp2_with (first
    | (go_at_call 66; refine (HW _).out.mono ?_; rintro e w' ⟨rfl, hw_⟩; have hw2_ := hw_.symm; clear hw_; subst hw2_))
  exact bodyPost_ret (v := .tuple #[.agg #[.int .i8 0, .slice none 0 0, .slice none 0 0], .int .i64 2]) (by simp [results, Try.results34, go_sem]) rfl ⟨_, _, rfl, Kd.R_nil _ _ _ _ _, Kd.R_nil _ _ _ _ _, Go.Joins.below_alloc1 w _⟩
set_option maxHeartbeats 1000000 in
set_option maxRecDepth 100000 in
theorem spec_yes (L n : Nat) (hL : isLv L n) (w : World) :
    Calls Try.prog 34 #[.int .i64 (L : Int)] w fun e w' => ∃ v1 v2 : Value, e = .returned (.tuple #[.agg #[.int .i8 ((2 * n : Nat) : Int), v1, v2], .int .i64 0]) ∧ Kd.R k96 96 w' w.heap.size (fun _ => True) v1 (plusG n) ∧ (Kd.int .i16).R 94 w' w.heap.size (fun _ => True) v2 (plusO n) ∧ Below w.heap.size w w' := by
  have HW := fun w => Lib.hid (level_calls (L : Int) true w (by rw [decide_eq_true (by omega), decide_eq_true (by have := (isLv_le hL).1; omega)]; rfl))
  have HBT := fun w => Lib.hid (bits_calls L n hL w)
  have HN := Lib.hid (isLv_le hL)
  obtain ⟨m, hm⟩ : ∃ m : Nat, 2 * n = m := ⟨_, rfl⟩
  have HM := Lib.hid hm
  have hmk : ∀ (M base : Nat) (w0 w : World) (_ : w.heap[M]? = some (.cells #[.slice none 0 0] 105 (0, 0))) (_ : base ≤ M) (_ : Below base w0 w), Calls Try.prog 68 #[.pointer (some ⟨M, 0, none⟩), .int .i64 (2 * (n : Int))] w fun e w' => ∃ (gv v : Value), e = .returned v ∧ w'.heap[M]? = some (.cells #[gv] 105 (0, 0)) ∧ Kd.R k96 96 w' base (fun _ => True) gv (ins m) ∧ (Kd.int .i16).R 94 w' base (fun _ => True) v (idx m) ∧ Below base w0 w' := fun M base w0 w h1 h2 h3 => by
    rw [show (2 * (n : Int)) = (m : Int) by omega]
    exact inputs_calls m (by have := HN.out; omega) M base w0 w h1 h2 h3
  have HMK := Lib.hid hmk
  clear hmk
  have gn : (n : Int) ≤ 8 := by have := HN.out; omega
  have gn0 : (0 : Int) ≤ (n : Int) := by omega
  have gnm : (n : Int) ≤ (m : Int) := by omega
  have gnm2 : n ≤ m := by omega
  have hmz : 2 * (n : Int) = (m : Int) := by omega
  have HMZ := Lib.hid hmz
  have HP : Hid (plusG n = ins m ++ xgs (idx m) n n ∧ plusO n = xos m n) := Lib.hid (by unfold plusG plusO; rw [hm]; exact ⟨rfl, rfl⟩)
  rw [hm]
  clear hL hm hmz
  have hI : (Try.prog.info? 94).map (·.size) = some 1 := by kernel_rfl
  go_enter Try.func34, Try.ntmps34
  go_wp2_with (first
    | (go_at_call 66; refine (HW _).out.mono ?_; rintro e w' ⟨rfl, hw_⟩; have hw2_ := hw_.symm; clear hw_; subst hw2_)
    | (go_at_call 67; refine (HBT _).out.mono ?_; rintro e w' ⟨rfl, hw_⟩; have hw2_ := hw_.symm; clear hw_; subst hw2_)
    | ((with_reducible refine gate_dst (N := 15) rfl ?_); refine box_event ?hg (N := 15) ?hd (cs := #[.slice none 0 0]) (t := 105) ?hr ?_; (case hd => rfl); (case hg => rfl); (case hr => first | (go_simp; done) | (go_simp; rfl)); intro M hM0 w1 hbox hb; have HBX := Lib.hid hbox; have HB0 := Lib.hid hb; have HMM := Lib.hid (Nat.le_of_eq hM0.symm); clear hM0 hbox hb)
    | (go_at_call 68; with_reducible refine (HMK.out M _ _ _ HBX.out HMM.out HB0.out).mono ?_; rintro e w2 ⟨gv, v, rfl, hB, hG, hO, hb⟩; obtain ⟨g, cap, ev, _, _, _⟩ := Kd.R_form hO (by rw [idx_len]; have := HN.out; omega); rw [idx_len] at ev; subst ev; have HB := Lib.hid hB; have HG := Lib.hid hG; have HO := Lib.hid hO; have HBL := Lib.hid hb; clear hB hG hO hb; refine Hid.out ?_))
  refine Lib.hid ?_
  have HCAP := Lib.hid (Kd.R_reads' HO.out).2.1
  obtain ⟨i94, hi94, hz94⟩ := Option.map_eq_some_iff.1 infoS94
  simp only [Prod.mk.injEq] at hz94
  have hsz94 := hz94.2.1
  have hs1 : ∀ W, (Instr.slice 56 (.slice (some ⟨g, 0, none⟩) m cap) none (some (.int .i64 (n : Int))) none).run Try.prog W = .ok (.slice (some ⟨g, 0, none⟩) n cap) W := fun W => by
    have := cut_to (P := Try.prog) 56 94 .i64 Try.underlying56 hi94 (some ⟨g, 0, none⟩) m cap (n : Int) (by omega) (by omega) HCAP.out W
    rw [Int.toNat_natCast] at this
    exact this
  have hs2 : ∀ W, (Instr.slice 56 (.slice (some ⟨g, 0, none⟩) m cap) (some (.int .i64 (n : Int))) none none).run Try.prog W = .ok (.slice (some ⟨g, n, none⟩) n (cap - n)) W := fun W => by
    have h1 := cut_from (P := Try.prog) 56 94 .i64 Try.underlying56 hi94 1 hsz94 (some ⟨g, 0, none⟩) m cap (n : Int) (by omega) (by omega) W
    rw [Int.toNat_natCast, if_neg (by have := HCAP.out; have := HM.out; have := HN.out; omega), show m - n = n by have := HM.out; omega] at h1
    rw [h1]
    have e : (⟨g, 0, none⟩ : Addr).add (n * 1) = ⟨g, n, none⟩ := by simp only [Addr.add, Nat.zero_add, Nat.mul_one]; split <;> simp_all
    simp only [Option.map_some, e]
  have HX := fun (w3 : World) (h1 : w3.heap = w2.heap) (h2 : Below (w.alloc (.cells #[.int .i8 0, .slice none 0 0, .slice none 0 0] 63)).heap.size (w.alloc (.cells #[.int .i8 0, .slice none 0 0, .slice none 0 0] 63)) w3) => Lib.hid (xorS_calls n cap (cap - n) cap (by have := HN.out; omega) (idx m) (by rw [idx_len]; exact HM.out.symm) g M gv (ins m) (by rw [ins_len]; have := HM.out; have := HN.out; omega) (m : Int) _ _ w3 (by rw [h1]; exact HB.out) HMM.out (Kd.R_move HG.out (fun k _ => by rw [h1])) (by rw [idx_len]; exact Kd.R_move HO.out (fun k _ => by rw [h1])) h2)
  clear hi94 hz94 hsz94
  go_wp2
  refine start_ (n := 9) (S := fun _ => True) (ds := [7]) #[false, false, false, false, false, false, false, false, false] (by kernel_rfl) rfl rfl trivial (fun hHeld => ?_)
  refine pure_ (i := 0) (N := some 20) (v := ?_) (a' := ?_) #[true, false, false, false, false, false, false, false, false] rfl rfl (by kernel_rfl) (fun _ _ _ h => h) (Or.inl ⟨by rfl, ?_⟩) ?_ ?_
  rotate_left
  · intro w'
    go_simp
    with_reducible rfl
  rotate_left
  · simp only [Act.put, List.setIfInBounds_toArray, List.set_cons_zero, List.set_cons_succ, i64_w, i32_w]
    rfl
  refine pure_ (i := 1) (N := some 21) (v := ?_) (a' := ?_) #[true, true, false, false, false, false, false, false, false] rfl rfl (by kernel_rfl) (fun _ _ _ h => h) (Or.inl ⟨by rfl, ?_⟩) ?_ ?_
  rotate_left
  · intro w'
    go_simp
    with_reducible rfl
  rotate_left
  · simp only [Act.put, List.setIfInBounds_toArray, List.set_cons_zero, List.set_cons_succ, i64_w, i32_w]
    rfl
  refine pure_ (i := 2) (N := some 22) (v := ?_) (a' := ?_) #[true, true, true, false, false, false, false, false, false] rfl rfl (by kernel_rfl) (fun _ _ _ h => h) (Or.inl ⟨by rfl, ?_⟩) ?_ ?_
  rotate_left
  · intro w'
    go_simp
    with_reducible rfl
  rotate_left
  · simp only [Act.put, List.setIfInBounds_toArray, List.set_cons_zero, List.set_cons_succ, i64_w, i32_w]
    rfl
  refine pure_ (i := 4) (N := some 24) (v := ?_) (a' := ?_) #[true, true, true, false, true, false, false, false, false] rfl rfl (by kernel_rfl) (fun _ _ _ h => h) (Or.inl ⟨by rfl, ?_⟩) ?_ ?_
  rotate_left
  · intro w'
    go_simp
    with_reducible rfl
  rotate_left
  · simp only [Act.put, List.setIfInBounds_toArray, List.set_cons_zero, List.set_cons_succ, i64_w, i32_w]
    rfl
  refine pure_ (i := 5) (N := some 25) (v := ?_) (a' := ?_) #[true, true, true, false, true, true, false, false, false] rfl rfl (by kernel_rfl) (fun _ _ _ h => h) (Or.inl ⟨by rfl, ?_⟩) ?_ ?_
  rotate_left
  · intro w'
    go_simp
    with_reducible rfl
  rotate_left
  · simp only [Act.put, List.setIfInBounds_toArray, List.set_cons_zero, List.set_cons_succ, i64_w, i32_w]
    rfl
  refine pure_ (i := 3) (N := some 23) (v := ?_) (a' := ?_) #[true, true, true, true, true, true, false, false, false] rfl rfl (by kernel_rfl) (fun _ _ _ h => h) (Or.inl ⟨by rfl, ?_⟩) ?_ ?_
  rotate_left
  · intro w'
    go_simp
    with_reducible rfl
  rotate_left
  · simp only [Act.put, List.setIfInBounds_toArray, List.set_cons_zero, List.set_cons_succ, i64_w, i32_w]
    rfl
  refine pure_ (i := 6) (N := some 26) (v := ?_) (a' := ?_) #[true, true, true, true, true, true, true, false, false] rfl rfl (by kernel_rfl) (fun _ _ _ h => h) (Or.inl ⟨by rfl, ?_⟩) ?_ ?_
  rotate_left
  · intro w'
    go_simp
    with_reducible rfl
  rotate_left
  · simp only [Act.put, List.setIfInBounds_toArray, List.set_cons_zero, List.set_cons_succ, i64_w, i32_w]
    rfl
  refine last_ (i := 7) (N := some 27) #[true, true, true, true, true, true, true, true, false] rfl rfl (by kernel_rfl) (by decide) (fun K hK => ?_)
  refine call_ 69 #[.pointer (some ⟨M, 0, none⟩), .slice (some ⟨g, 0, none⟩) n cap, .slice (some ⟨g, n, none⟩) n (cap - n)] (by rfl) rfl ?hrun ?_
  case hrun => (go_simp; done)
  with_reducible refine (HX w2.drew rfl (below_drew HBL.out)).out.mono ?_
  rintro e W1 ⟨gv2, v2, rfl, hm, hr, ho, hb⟩
  refine ⟨_, rfl, ?_⟩
  rw [ins_len] at ho
  obtain ⟨A2, c2, ev⟩ := Kd.R_slice ho; rw [xos_len] at ev; subst ev
  obtain ⟨A1, c1, ev⟩ := Kd.R_slice hr; subst ev
  have HM1 := Lib.hid hm; have HR1 := Lib.hid hr; have HO1 := Lib.hid ho; have HB1 := Lib.hid hb
  clear hm hr ho hb HX
  refine hK.out _ _ ?_
  clear hK K
  refine norm_ (a' := ?_) ?_ ?_
  rotate_left
  · show Act.put _ (some 27) _ = _
    simp only [Act.put, List.setIfInBounds_toArray, List.set_cons_zero, List.set_cons_succ, i64_w, i32_w]
    rfl
  refine pure_ (i := 8) (N := some 7) (v := ?_) (a' := ?_) #[true, true, true, true, true, true, true, true, true] rfl rfl (by kernel_rfl) (fun _ _ _ h => h) (Or.inl ⟨by rfl, ?_⟩) ?_ ?_
  rotate_left
  · intro w'
    go_simp
    with_reducible rfl
  rotate_left
  · simp only [Act.put, List.setIfInBounds_toArray, List.set_cons_zero, List.set_cons_succ, i64_w, i32_w]
    rfl
  refine done_ (by kernel_rfl) ?_
  obtain ⟨q, hq⟩ : ∃ q, (ins m ++ xgs (idx m) n n).length = q := ⟨_, rfl⟩
  rw [hq] at HM1 HR1
  clear hq HB HG HO HBL
  have HZ : Hid (W1.heap[w.heap.size]? = some (.cells #[.int .i8 0, .slice none 0 0, .slice none 0 0] 63 (0, 0))) := Lib.hid (by rw [HB1.out.block _ (by simp)]; simp only [World.alloc]; exact Array.getElem?_push_size)
  have HB2 : Hid (Below w.heap.size w W1) := Lib.hid ((Go.Joins.below_alloc1 w _).trans (HB1.out.mono (by simp)))
  refine Hid.out ?_
  refine Lib.hid ?_
  have c0 := Go.Joins.cell_of_block HM1.out 0
  simp only [List.getElem?_toArray, List.getElem?_cons_zero, List.getElem?_cons_succ] at c0
  have z0 := Go.Joins.cell_of_block HZ.out 0
  have z1 := Go.Joins.cell_of_block HZ.out 1
  have z2 := Go.Joins.cell_of_block HZ.out 2
  have f0 := Go.Joins.unfrozen_of_block HZ.out 0
  have f1 := Go.Joins.unfrozen_of_block HZ.out 1
  have f2 := Go.Joins.unfrozen_of_block HZ.out 2
  simp only [List.getElem?_toArray, List.getElem?_cons_zero, List.getElem?_cons_succ] at z0 z1 z2
  go_wp2
  rw [HMZ.out]
  clear c0
  rw [HP.out.1, HP.out.2]
  obtain ⟨W5, hW5, d0, d1, d2, kB, kR, kO⟩ := three_set HZ.out (.int .i8 (m : Int)) (.slice A1 q c1) (.slice A2 n c2)
  rw [hW5]
  clear hW5 z0 z1 z2 f0 f1 f2
  refine bodyPost_ret (v := .tuple #[.agg #[.int .i8 (m : Int), (.slice A1 q c1), (.slice A2 n c2)], .int .i64 0]) (by simp [results, Try.results34, go_sem, d0, d1, d2]) rfl ⟨_, _, rfl, ?_, ?_, ?_⟩
  · exact kR _ _ _ _ (Kd.R_lower HR1.out (by simp))
  · exact kO _ _ _ _ (Kd.R_lower HO1.out (by simp))
  · exact kB _ _ (Nat.le_refl _) HB2.out
namespace spec_PlusCircuit
def f (a0 : Int) : Option (Int × List S96 × List Int × Int) := plusF a0
theorem calls (a0 : Int) (r1 : Int) (r2 : List S96) (r3 : List Int) (r4 : Int) (w : World) (h : f a0 = some (r1, r2, r3, r4)) : Calls Try.prog 34 #[.int .i64 a0] w fun e w' => ∃ v1 v2 : Value, e = .returned (.tuple #[.agg #[.int .i8 r1, v1, v2], .int .i64 r4]) ∧ Kd.R k96 96 w' w.heap.size (fun _ => True) v1 r2 ∧ (Kd.int .i16).R 94 w' w.heap.size (fun _ => True) v2 r3 ∧ Below w.heap.size w w' := by
  by_cases hL : 0 ≤ a0 ∧ a0 ≤ 3
  · unfold f plusF at h
    rw [if_pos hL] at h
    simp only [Option.some.injEq, Prod.mk.injEq] at h
    obtain ⟨rfl, rfl, rfl, rfl⟩ := h
    have := spec_yes a0.toNat (plusN a0) (plusN_isLv hL) w
    rw [Int.toNat_of_nonneg hL.1] at this
    exact this
  · unfold f plusF at h
    rw [if_neg hL] at h
    simp only [Option.some.injEq, Prod.mk.injEq] at h
    obtain ⟨rfl, rfl, rfl, rfl⟩ := h
    exact spec_no a0 hL w
end spec_PlusCircuit

end Go.Proofs.Ythjbeglmdifhdaa.Given
