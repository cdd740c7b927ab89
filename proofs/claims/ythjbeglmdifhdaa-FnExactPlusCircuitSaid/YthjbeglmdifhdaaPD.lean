/- The circuit of a sum, whole, as the program and as the reference make it: walked. -/
import Derived.Test.YthjbeglmdifhdaaProg
import Derived.Below
import Derived.Deep.Draws
import Derived.Deep.AppendLies
import Derived.Maps.AppendAt
import Derived.OwnWalk
import Derived.Laws.BytesArg
import Derived.Laws.MakeOwn
import Derived.Laws.OwnMore
import Derived.Deep.OwnRows
import Derived.Tactics
import Derived.Lib.ConvBytes
import Derived.Laws.Slices
import Derived.WalkKit
import Derived.KernelRfl
import Derived.RowKit3
import Derived.Deep.LoopGhost
import Derived.Deep.QuietTactic
import Derived.BigQuiet
import Derived.WideLaws
import Derived.Deep.DeepCutAuto
import Derived.Deep.CutBlock
import Derived.Deep.RegionHeld3
import Derived.Laws.Rows
import Derived.Lib.AppendStr
import Derived.ArgAppend
import Derived.Laws.IdiomCopy
import Derived.OrdersHeld
import Derived.Laws.BitsLemmas
import Derived.RowKit
import Derived.Lib.Hide
import Derived.WalkSpells
import Derived.Test.YthjbeglmdifhdaaWWords
import Derived.Test.YthjbeglmdifhdaaWLast
import Derived.Test.YthjbeglmdifhdaaWTab
import Derived.Test.YthjbeglmdifhdaaWFour
import Derived.Test.YthjbeglmdifhdaaWQPut
import Derived.Test.YthjbeglmdifhdaaWApart
import Derived.Test.YthjbeglmdifhdaaWArr
import Derived.Test.YthjbeglmdifhdaaWZeros
import Derived.Test.YthjbeglmdifhdaaWFoot
import Derived.Test.YthjbeglmdifhdaaWKept
import Derived.Test.YthjbeglmdifhdaaWShare
import Derived.Test.YthjbeglmdifhdaaWN
import Derived.Test.YthjbeglmdifhdaaWFootNe
import Derived.Test.YthjbeglmdifhdaaWAt
import Derived.Test.YthjbeglmdifhdaaWEqStruct
import Derived.Test.YthjbeglmdifhdaaWRepsOne
import Derived.Test.YthjbeglmdifhdaaWInv
import Derived.Test.YthjbeglmdifhdaaWInvWords
import Derived.Test.YthjbeglmdifhdaaWGuard
import Derived.Test.YthjbeglmdifhdaaWNEv
import Derived.Test.YthjbeglmdifhdaaWMore
import Derived.Test.YthjbeglmdifhdaaN1
import Derived.Test.YthjbeglmdifhdaaPC
import Derived.Lib.SmallJoins
namespace Go.Proofs.Ythjbeglmdifhdaa.Given
open Go.RowKit Go.Proofs.YthjbeglmdifhdaaW.PrintWords Go.Proofs.YthjbeglmdifhdaaW.PrintLast Go.Proofs.YthjbeglmdifhdaaW.PrintMore Go.Proofs.Ythjbeglmdifhdaa.NimF Go.Proofs.Ythjbeglmdifhdaa.NimGo
set_option linter.unusedVariables false
set_option linter.unusedSimpArgs false
open Go.Proofs.Ythjbeglmdifhdaa.RFnExactPlusCircuit
set_option maxHeartbeats 1000000 in
theorem within_calls (n lo hi : Int) (r : Bool) (w : World) (h : (decide (lo ≤ n) && decide (n ≤ hi)) = r) : Calls Try.prog 40 #[.int .i64 n, .int .i64 lo, .int .i64 hi] w fun e w' => e = .returned (.bool r) ∧ w' = w := by
  by_cases h1 : lo ≤ n
  · rw [decide_eq_true h1, Bool.true_and] at h
    by_cases h2 : n ≤ hi
    · rw [decide_eq_true h2] at h
      subst h
      go_enter Try.func40, Try.ntmps40
      go_wp2
      go_ret
      exact ⟨rfl, rfl⟩
    · rw [decide_eq_false h2] at h
      subst h
      have h3 : hi < n := by omega
      have h4 : decide (n ≤ hi) = false := decide_eq_false h2
      clear h2
      go_enter Try.func40, Try.ntmps40
      go_wp2
      go_ret
      exact ⟨rfl, rfl⟩
  · rw [decide_eq_false h1, Bool.false_and] at h
    subst h
    have h3 : n < lo := by omega
    clear h1
    go_enter Try.func40, Try.ntmps40
    go_wp2
    go_ret
    exact ⟨rfl, rfl⟩
set_option maxHeartbeats 1000000 in
theorem l00In_calls (n lo hi : Int) (r : Bool) (w : World) (h : (decide (lo ≤ n) && decide (n ≤ hi)) = r) : Calls Try.prog 38 #[.int .i64 n, .int .i64 lo, .int .i64 hi] w fun e w' => e = .returned (.bool r) ∧ w' = w := by
  by_cases h1 : lo ≤ n
  · rw [decide_eq_true h1, Bool.true_and] at h
    by_cases h2 : n ≤ hi
    · rw [decide_eq_true h2] at h
      subst h
      go_enter Try.func38, Try.ntmps38
      go_wp2
      go_ret
      exact ⟨rfl, rfl⟩
    · rw [decide_eq_false h2] at h
      subst h
      have h3 : hi < n := by omega
      have h4 : decide (n ≤ hi) = false := decide_eq_false h2
      clear h2
      go_enter Try.func38, Try.ntmps38
      go_wp2
      go_ret
      exact ⟨rfl, rfl⟩
  · rw [decide_eq_false h1, Bool.false_and] at h
    subst h
    have h3 : n < lo := by omega
    clear h1
    go_enter Try.func38, Try.ntmps38
    go_wp2
    go_ret
    exact ⟨rfl, rfl⟩
/-- the circuit of a sum of two nimbers of so many bits -/
def plusG (n : Nat) : List S96 := ins (2 * n) ++ xgs (idx (2 * n)) n n
def plusO (n : Nat) : List Int := xos (2 * n) n
def isLv (L n : Nat) : Prop := (L = 0 ∧ n = 1) ∨ (L = 1 ∧ n = 2) ∨ (L = 2 ∧ n = 4) ∨ (L = 3 ∧ n = 8)
theorem isLv_le {L n : Nat} (h : isLv L n) : L ≤ 3 ∧ 1 ≤ n ∧ n ≤ 8 := by unfold isLv at h; omega
/-- a circuit's three cells are stored -/
theorem three_set {W : World} {g : Nat} {x0 x1 x2 : Value} (h : W.heap[g]? = some (.cells #[x0, x1, x2] 63 (0, 0))) (y0 y1 y2 : Value) : ∃ W5, ((W.setCell ⟨g, 0, none⟩ y0).setCell ⟨g, 1, none⟩ y1).setCell ⟨g, 2, none⟩ y2 = W5 ∧ W5.cell? ⟨g, 0, none⟩ = some y0 ∧ W5.cell? ⟨g, 1, none⟩ = some y1 ∧ W5.cell? ⟨g, 2, none⟩ = some y2
    ∧ (∀ base w0, base ≤ g → Below base w0 W → Below base w0 W5) ∧ (∀ base ok v xs, Kd.R k96 96 W base ok v xs → Kd.R k96 96 W5 base ok v xs) ∧ (∀ base ok v xs, (Kd.int .i16).R 94 W base ok v xs → (Kd.int .i16).R 94 W5 base ok v xs) := by
  have h0 := Go.Joins.block_setCell h (i := 0) y0
  have h1 := Go.Joins.block_setCell h0 (i := 1) y1
  have h2 := Go.Joins.block_setCell h1 (i := 2) y2
  refine ⟨_, rfl, ?_, ?_, ?_, ?_, ?_, ?_⟩
  · rw [Go.Joins.cell_of_block h2]; rfl
  · rw [Go.Joins.cell_of_block h2]; rfl
  · rw [Go.Joins.cell_of_block h2]; rfl
  · intro base w0 hb hB
    exact ((hB.setCell (p := ⟨g, 0, none⟩) hb _).setCell (p := ⟨g, 1, none⟩) hb _).setCell (p := ⟨g, 2, none⟩) hb _
  · intro base ok v xs hr
    exact Kd.R_set (Kd.R_set (Kd.R_set hr h (by decide) 0 _) h0 (by decide) 1 _) h1 (by decide) 2 _
  · intro base ok v xs hr
    exact Kd.R_set (Kd.R_set (Kd.R_set hr h (by decide) 0 _) h0 (by decide) 1 _) h1 (by decide) 2 _
set_option maxHeartbeats 1000000 in
set_option maxRecDepth 100000 in
theorem forTwo_yes (L n : Nat) (hL : isLv L n) (w : World) :
    Calls Try.prog 70 #[.int .i64 (L : Int), .func (.func 71) #[] #[]] w fun e w' => ∃ v1 v2 : Value, e = .returned (.tuple #[.agg #[.int .i8 ((2 * n : Nat) : Int), v1, v2], .int .i64 0]) ∧ Kd.R k96 96 w' w.heap.size (fun _ => True) v1 (plusG n) ∧ (Kd.int .i16).R 94 w' w.heap.size (fun _ => True) v2 (plusO n) ∧ Below w.heap.size w w' := by
  have HW := fun w => Lib.hid (within_calls (L : Int) 0 3 true w (by rw [decide_eq_true (by omega), decide_eq_true (by have := (isLv_le hL).1; omega)]; rfl))
  have HN := Lib.hid (isLv_le hL)
  obtain ⟨m, hm⟩ : ∃ m : Nat, 2 * n = m := ⟨_, rfl⟩
  have HM := Lib.hid hm
  have hmk : ∀ w, Calls Try.prog 85 #[.int .i64 (2 * (n : Int))] w fun e w' => ∃ (M : Nat) (gv v : Value), e = .returned (.tuple #[.pointer (some ⟨M, 0, none⟩), v]) ∧ w.heap.size ≤ M ∧ w'.heap[M]? = some (.cells #[.int .i8 (m : Int), gv, .slice none 0 0] 127 (0, 0)) ∧ Kd.R k96 96 w' w.heap.size (fun _ => True) gv (ins m) ∧ (Kd.int .i16).R 94 w' w.heap.size (fun _ => True) v (idx m) ∧ Below w.heap.size w w' := fun w => by
    rw [show (2 * (n : Int)) = (m : Int) by omega]
    exact newMaker_calls m (by have := HN.out; omega) w
  have HMK := fun w => Lib.hid (hmk w)
  clear hmk
  have hp : wrap64 ((2 : Int) ^ L) = (n : Int) := by rcases hL with ⟨rfl, rfl⟩ | ⟨rfl, rfl⟩ | ⟨rfl, rfl⟩ | ⟨rfl, rfl⟩ <;> simp [wrap64]
  have gL0 : (0 : Int) ≤ (L : Int) := by omega
  have gL3 : (L : Int) ≤ 3 := by have := HN.out; omega
  have gn : (n : Int) ≤ 8 := by have := HN.out; omega
  have gn0 : (0 : Int) ≤ (n : Int) := by omega
  have gnm : (n : Int) ≤ (m : Int) := by omega
  have gnm2 : n ≤ m := by omega
  have HP : Hid (plusG n = ins m ++ xgs (idx m) n n ∧ plusO n = xos m n) := Lib.hid (by unfold plusG plusO; rw [hm]; exact ⟨rfl, rfl⟩)
  rw [hm]
  clear hL hm
  have hI : (Try.prog.info? 94).map (·.size) = some 1 := by kernel_rfl
  go_enter Try.func70, Try.ntmps70
  go_wp2_with (first
    | (go_at_call 40; refine (HW _).out.mono ?_; rintro e w' ⟨rfl, hw_⟩; have hw2_ := hw_.symm; clear hw_; subst hw2_)
    | (go_at_call 85; with_reducible refine (HMK _).out.mono ?_; rintro e w2 ⟨M, gv, v, rfl, hM, hB, hG, hO, hb⟩; obtain ⟨g, cap, ev, _, _, _⟩ := Kd.R_form hO (by rw [idx_len]; have := HN.out; omega); rw [idx_len] at ev; subst ev; have HMM := Lib.hid hM; have HB := Lib.hid hB; have HG := Lib.hid hG; have HO := Lib.hid hO; have HBL := Lib.hid hb; clear hM hB hG hO hb; refine Hid.out ?_))
  refine Lib.hid ?_
  have HCAP := Lib.hid (Kd.R_reads' HO.out).2.1
  obtain ⟨i94, hi94, hz94⟩ := Option.map_eq_some_iff.1 infoS94
  simp only [Prod.mk.injEq] at hz94
  have hsz94 := hz94.2.1
  have hs1 : ∀ W, (Instr.slice 56 (.slice (some ⟨g, 0, none⟩) m cap) none (some (.int .i64 (n : Int))) none).run Try.prog W = .ok (.slice (some ⟨g, 0, none⟩) n cap) W := fun W => by
    have := cut_to (P := Try.prog) 56 94 .i64 Try.underlying56 hi94 (some ⟨g, 0, none⟩) m cap (n : Int) (by omega) (by omega) HCAP.out W
    rw [Int.toNat_natCast] at this
    exact this
  have hs2 : ∀ W, (Instr.slice 56 (.slice (some ⟨g, 0, none⟩) m cap) (some (.int .i64 (n : Int))) none none).run Try.prog W = .ok (.slice (some ⟨g, n, none⟩) n (cap - n)) W := fun W => by
    have h1 := cut_from (P := Try.prog) 56 94 .i64 Try.underlying56 hi94 1 hsz94 (some ⟨g, 0, none⟩) m cap (n : Int) (by omega) (by omega) W
    rw [Int.toNat_natCast, if_neg (by have := HCAP.out; have := HM.out; have := HN.out; omega), show m - n = n by have := HM.out; omega] at h1
    rw [h1]
    have e : (⟨g, 0, none⟩ : Addr).add (n * 1) = ⟨g, n, none⟩ := by simp only [Addr.add, Nat.zero_add, Nat.mul_one]; split <;> simp_all
    simp only [Option.map_some, e]
  have HX := fun (w3 : World) (h1 : w3.heap = w2.heap) (h2 : Below (w.alloc (.cells #[.int .i8 0, .slice none 0 0, .slice none 0 0] 63)).heap.size (w.alloc (.cells #[.int .i8 0, .slice none 0 0, .slice none 0 0] 63)) w3) => Lib.hid (xorI_calls (.slice none 0 0) n cap (cap - n) cap (by have := HN.out; omega) (idx m) (by rw [idx_len]; exact HM.out.symm) g M gv (ins m) (by rw [ins_len]; have := HM.out; have := HN.out; omega) (m : Int) _ _ w3 (by rw [h1]; exact HB.out) HMM.out (Kd.R_move HG.out (fun k _ => by rw [h1])) (by rw [idx_len]; exact Kd.R_move HO.out (fun k _ => by rw [h1])) h2)
  clear hi94 hz94 hsz94
  go_wp2
  refine start_ (n := 14) (S := fun _ => True) (ds := [9, 13]) #[false, false, false, false, false, false, false, false, false, false, false, false, false, false] (by kernel_rfl) rfl rfl trivial (fun hHeld => ?_)
  refine pure_ (i := 0) (N := some 21) (v := ?_) (a' := ?_) #[true, false, false, false, false, false, false, false, false, false, false, false, false, false] rfl rfl (by kernel_rfl) (fun _ _ _ h => h) (Or.inl ⟨by rfl, ?_⟩) ?_ ?_
  rotate_left
  · intro w'
    go_simp
    with_reducible rfl
  rotate_left
  · simp only [Act.put, List.setIfInBounds_toArray, List.set_cons_zero, List.set_cons_succ, i64_w, i32_w]
    rfl
  refine pure_ (i := 1) (N := some 22) (v := ?_) (a' := ?_) #[true, true, false, false, false, false, false, false, false, false, false, false, false, false] rfl rfl (by kernel_rfl) (fun _ _ _ h => h) (Or.inl ⟨by rfl, ?_⟩) ?_ ?_
  rotate_left
  · intro w'
    go_simp
    with_reducible rfl
  rotate_left
  · simp only [Act.put, List.setIfInBounds_toArray, List.set_cons_zero, List.set_cons_succ, i64_w, i32_w]
    rfl
  refine pure_ (i := 2) (N := some 23) (v := ?_) (a' := ?_) #[true, true, true, false, false, false, false, false, false, false, false, false, false, false] rfl rfl (by kernel_rfl) (fun _ _ _ h => h) (Or.inl ⟨by rfl, ?_⟩) ?_ ?_
  rotate_left
  · intro w'
    go_simp
    with_reducible rfl
  rotate_left
  · simp only [Act.put, List.setIfInBounds_toArray, List.set_cons_zero, List.set_cons_succ, i64_w, i32_w]
    rfl
  refine pure_ (i := 3) (N := some 24) (v := ?_) (a' := ?_) #[true, true, true, true, false, false, false, false, false, false, false, false, false, false] rfl rfl (by kernel_rfl) (fun _ _ _ h => h) (Or.inl ⟨by rfl, ?_⟩) ?_ ?_
  rotate_left
  · intro w'
    go_simp
    with_reducible rfl
  rotate_left
  · simp only [Act.put, List.setIfInBounds_toArray, List.set_cons_zero, List.set_cons_succ, i64_w, i32_w]
    rfl
  refine pure_ (i := 4) (N := some 25) (v := ?_) (a' := ?_) #[true, true, true, true, true, false, false, false, false, false, false, false, false, false] rfl rfl (by kernel_rfl) (fun _ _ _ h => h) (Or.inl ⟨by rfl, ?_⟩) ?_ ?_
  rotate_left
  · intro w'
    go_simp
    with_reducible rfl
  rotate_left
  · simp only [Act.put, List.setIfInBounds_toArray, List.set_cons_zero, List.set_cons_succ, i64_w, i32_w]
    rfl
  refine pure_ (i := 6) (N := some 27) (v := ?_) (a' := ?_) #[true, true, true, true, true, false, true, false, false, false, false, false, false, false] rfl rfl (by kernel_rfl) (fun _ _ _ h => h) (Or.inl ⟨by rfl, ?_⟩) ?_ ?_
  rotate_left
  · intro w'
    go_simp
    with_reducible rfl
  rotate_left
  · simp only [Act.put, List.setIfInBounds_toArray, List.set_cons_zero, List.set_cons_succ, i64_w, i32_w]
    rfl
  refine pure_ (i := 7) (N := some 28) (v := ?_) (a' := ?_) #[true, true, true, true, true, false, true, true, false, false, false, false, false, false] rfl rfl (by kernel_rfl) (fun _ _ _ h => h) (Or.inl ⟨by rfl, ?_⟩) ?_ ?_
  rotate_left
  · intro w'
    go_simp
    with_reducible rfl
  rotate_left
  · simp only [Act.put, List.setIfInBounds_toArray, List.set_cons_zero, List.set_cons_succ, i64_w, i32_w]
    rfl
  refine pure_ (i := 5) (N := some 26) (v := ?_) (a' := ?_) #[true, true, true, true, true, true, true, true, false, false, false, false, false, false] rfl rfl (by kernel_rfl) (fun _ _ _ h => h) (Or.inl ⟨by rfl, ?_⟩) ?_ ?_
  rotate_left
  · intro w'
    go_simp
    with_reducible rfl
  rotate_left
  · simp only [Act.put, List.setIfInBounds_toArray, List.set_cons_zero, List.set_cons_succ, i64_w, i32_w]
    rfl
  refine pure_ (i := 8) (N := some 29) (v := ?_) (a' := ?_) #[true, true, true, true, true, true, true, true, true, false, false, false, false, false] rfl rfl (by kernel_rfl) (fun _ _ _ h => h) (Or.inl ⟨by rfl, ?_⟩) ?_ ?_
  rotate_left
  · intro w'
    go_simp
    with_reducible rfl
  rotate_left
  · simp only [Act.put, List.setIfInBounds_toArray, List.set_cons_zero, List.set_cons_succ, i64_w, i32_w]
    rfl
  refine last_ (i := 9) (N := some 30) #[true, true, true, true, true, true, true, true, true, true, false, false, false, false] rfl rfl (by kernel_rfl) (by decide) (fun K hK => ?_)
  refine call_ 71 #[.pointer (some ⟨M, 0, none⟩), .slice (some ⟨g, 0, none⟩) n cap, .slice (some ⟨g, n, none⟩) n (cap - n)] (by rfl) rfl ?hrun ?_
  case hrun => (go_simp; done)
  with_reducible refine (HX w2.drew rfl (below_drew HBL.out)).out.mono ?_
  rintro e W1 ⟨gv2, v2, rfl, hm, hr, ho, hb⟩
  refine ⟨_, rfl, ?_⟩
  rw [ins_len] at ho
  obtain ⟨A2, c2, ev⟩ := Kd.R_slice ho; rw [xos_len] at ev; subst ev
  obtain ⟨A1, c1, ev⟩ := Kd.R_slice hr; subst ev
  have HM1 := Lib.hid hm; have HR1 := Lib.hid hr; have HO1 := Lib.hid ho; have HB1 := Lib.hid hb
  clear hm hr ho hb HX
  refine hK.out _ _ ?_
  clear hK K
  refine norm_ (a' := ?_) ?_ ?_
  rotate_left
  · show Act.put _ (some 30) _ = _
    simp only [Act.put, List.setIfInBounds_toArray, List.set_cons_zero, List.set_cons_succ, i64_w, i32_w]
    rfl
  refine pure_ (i := 10) (N := some 31) (v := ?_) (a' := ?_) #[true, true, true, true, true, true, true, true, true, true, true, false, false, false] rfl rfl (by kernel_rfl) (fun _ _ _ h => h) (Or.inl ⟨by rfl, ?_⟩) ?_ ?_
  rotate_left
  · intro w'
    go_simp
    with_reducible rfl
  rotate_left
  · simp only [Act.put, List.setIfInBounds_toArray, List.set_cons_zero, List.set_cons_succ, i64_w, i32_w]
    rfl
  refine pure_ (i := 11) (N := some 32) (v := ?_) (a' := ?_) #[true, true, true, true, true, true, true, true, true, true, true, true, false, false] rfl rfl (by kernel_rfl) (fun _ _ _ h => h) (Or.inl ⟨by rfl, ?_⟩) ?_ ?_
  rotate_left
  · intro w'
    go_simp
    with_reducible rfl
  rotate_left
  · simp only [Act.put, List.setIfInBounds_toArray, List.set_cons_zero, List.set_cons_succ, i64_w, i32_w]
    rfl
  refine pure_ (i := 12) (N := some 33) (v := ?_) (a' := ?_) #[true, true, true, true, true, true, true, true, true, true, true, true, true, false] rfl rfl (by kernel_rfl) (fun _ _ _ h => h) (Or.inl ⟨by rfl, ?_⟩) ?_ ?_
  rotate_left
  · intro w'
    go_simp
    with_reducible rfl
  rotate_left
  · simp only [Act.put, List.setIfInBounds_toArray, List.set_cons_zero, List.set_cons_succ, i64_w, i32_w]
    rfl
  refine last_ (i := 13) (N := none) #[true, true, true, true, true, true, true, true, true, true, true, true, true, true] rfl rfl (by kernel_rfl) (by decide) (fun K hK => ?_)
  have hc2 := Go.Joins.cell_of_block HM1.out 2
  have hf2 := Go.Joins.unfrozen_of_block HM1.out 2
  simp only [List.getElem?_toArray, List.getElem?_cons_zero, List.getElem?_cons_succ] at hc2
  refine skip_ (w1 := ?_) (by rfl) rfl ?_ ?_
  rotate_left
  · go_simp
    rfl
  clear hc2 hf2
  refine hK.out _ _ ?_
  clear hK K
  refine done_ (by kernel_rfl) ?_
  obtain ⟨q, hq⟩ : ∃ q, (ins m ++ xgs (idx m) n n).length = q := ⟨_, rfl⟩
  rw [hq] at HM1 HR1
  clear hq
  obtain ⟨W2, hW2⟩ : ∃ W2, W1.setCell ⟨M, 2, none⟩ (.slice A2 n c2) = W2 := ⟨_, rfl⟩
  have HM2 : Hid (W2.heap[M]? = some (.cells #[.int .i8 (m : Int), .slice A1 q c1, .slice A2 n c2] 127 (0, 0))) := Lib.hid (by rw [← hW2, Go.Joins.block_setCell HM1.out]; rfl)
  have HR2 := Lib.hid (Kd.R_set HR1.out HM1.out (by decide) 2 (.slice A2 n c2))
  have HO2 := Lib.hid (Kd.R_set HO1.out HM1.out (by decide) 2 (.slice A2 n c2))
  have HB2 := Lib.hid (HB1.out.setCell (p := ⟨M, 2, none⟩) HMM.out (.slice A2 n c2))
  rw [hW2] at HR2 HO2 HB2 ⊢
  clear hW2 HM1 HR1 HO1 HB1 HB HG HO HBL
  have HZ : Hid (W2.heap[w.heap.size]? = some (.cells #[.int .i8 0, .slice none 0 0, .slice none 0 0] 63 (0, 0))) := Lib.hid (by rw [HB2.out.block _ (by simp)]; simp only [World.alloc]; exact Array.getElem?_push_size)
  refine Hid.out ?_
  refine Lib.hid ?_
  have c0 := Go.Joins.cell_of_block HM2.out 0
  have c1' := Go.Joins.cell_of_block HM2.out 1
  have c2' := Go.Joins.cell_of_block HM2.out 2
  have z0 := Go.Joins.cell_of_block HZ.out 0
  have z1 := Go.Joins.cell_of_block HZ.out 1
  have z2 := Go.Joins.cell_of_block HZ.out 2
  have f0 := Go.Joins.unfrozen_of_block HZ.out 0
  have f1 := Go.Joins.unfrozen_of_block HZ.out 1
  have f2 := Go.Joins.unfrozen_of_block HZ.out 2
  simp only [List.getElem?_toArray, List.getElem?_cons_zero, List.getElem?_cons_succ] at c0 c1' c2' z0 z1 z2
  go_wp2
  have HB0 : Hid (Below w.heap.size w W2) := Lib.hid ((Go.Joins.below_alloc1 w _).trans (HB2.out.mono (by simp)))
  obtain ⟨W5, hW5, d0, d1, d2, kB, kR, kO⟩ := three_set HZ.out (.int .i8 (m : Int)) (.slice A1 q c1) (.slice A2 n c2)
  rw [hW5]
  clear hW5 c0 c1' c2' z0 z1 z2 f0 f1 f2
  refine bodyPost_ret (v := .tuple #[.agg #[.int .i8 (m : Int), .slice A1 q c1, .slice A2 n c2], .int .i64 0]) (by simp [results, Try.results70, go_sem, d0, d1, d2]) rfl ⟨_, _, rfl, ?_, ?_, ?_⟩
  · rw [HP.out.1]
    exact kR _ _ _ _ (Kd.R_lower HR2.out (by simp))
  · rw [HP.out.2]
    exact kO _ _ _ _ (Kd.R_lower HO2.out (by simp))
  · exact kB _ _ (Nat.le_refl _) HB0.out

end Go.Proofs.Ythjbeglmdifhdaa.Given
