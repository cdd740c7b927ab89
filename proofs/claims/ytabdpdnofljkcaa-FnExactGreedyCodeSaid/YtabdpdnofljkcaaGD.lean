/- A list of words is marked: walked. -/
import Derived.Test.YtabdpdnofljkcaaProg
import Derived.Below
import Derived.Deep.Draws
import Derived.Deep.AppendLies
import Derived.Maps.AppendAt
import Derived.OwnWalk
import Derived.Laws.BytesArg
import Derived.Laws.MakeOwn
import Derived.Laws.OwnMore
import Derived.Deep.OwnRows
import Derived.Tactics
import Derived.Lib.ConvBytes
import Derived.Laws.Slices
import Derived.WalkKit
import Derived.KernelRfl
import Derived.RowKit3
import Derived.Deep.LoopGhost
import Derived.Deep.QuietTactic
import Derived.BigQuiet
import Derived.WideLaws
import Derived.Deep.DeepCutAuto
import Derived.Deep.CutBlock
import Derived.Deep.RegionHeld3
import Derived.Laws.Rows
import Derived.Lib.AppendStr
import Derived.ArgAppend
import Derived.Laws.IdiomCopy
import Derived.OrdersHeld
import Derived.Laws.BitsLemmas
import Derived.RowKit
import Derived.Lib.Hide
import Derived.WalkSpells
import Derived.Test.YtabdpdnofljkcaaWWords
import Derived.Test.YtabdpdnofljkcaaWLast
import Derived.Test.YtabdpdnofljkcaaWTab
import Derived.Test.YtabdpdnofljkcaaWFour
import Derived.Test.YtabdpdnofljkcaaWQPut
import Derived.Test.YtabdpdnofljkcaaWApart
import Derived.Test.YtabdpdnofljkcaaWArr
import Derived.Test.YtabdpdnofljkcaaWZeros
import Derived.Test.YtabdpdnofljkcaaWFoot
import Derived.Test.YtabdpdnofljkcaaWKept
import Derived.Test.YtabdpdnofljkcaaWShare
import Derived.Test.YtabdpdnofljkcaaWN
import Derived.Test.YtabdpdnofljkcaaWFootNe
import Derived.Test.YtabdpdnofljkcaaWAt
import Derived.Test.YtabdpdnofljkcaaWEqStruct
import Derived.Test.YtabdpdnofljkcaaWRepsOne
import Derived.Test.YtabdpdnofljkcaaWInv
import Derived.Test.YtabdpdnofljkcaaWInvWords
import Derived.Test.YtabdpdnofljkcaaWGuard
import Derived.Test.YtabdpdnofljkcaaWNEv
import Derived.Test.YtabdpdnofljkcaaWMore
import Derived.Test.YtabdpdnofljkcaaN1
import Derived.Test.YtabdpdnofljkcaaGC
import Derived.Lib.SmallJoins
namespace Go.Proofs.Ytabdpdnofljkcaa.Given
open Go.RowKit Go.Proofs.YtabdpdnofljkcaaW.PrintWords Go.Proofs.YtabdpdnofljkcaaW.PrintLast Go.Proofs.YtabdpdnofljkcaaW.PrintMore Go.Proofs.Ytabdpdnofljkcaa.NimF Go.Proofs.Ytabdpdnofljkcaa.NimGo
set_option linter.unusedVariables false
set_option linter.unusedSimpArgs false
open Go.Proofs.Ytabdpdnofljkcaa.PFnExactGreedyCode
open Go.Proofs.Ytabdpdnofljkcaa.RAPT
open Go.Proofs.Ytabdpdnofljkcaa.NimF
open Go.Proofs.Ytabdpdnofljkcaa.NimGo
theorem markWord_ev (l : List Int) (c : Int) (h0 : 0 ≤ c) (h : c + (l.length : Int) ≤ 4611686018427387900) : ∃ K, ∀ k, K ≤ k → laws_markWord.f k l c = some (c + (l.length : Int), marks .u16 c l.length) :=
  mark_ev (fun _ _ _ => rfl) (fun _ _ _ _ => rfl) l c h0 h
theorem heldWord_ev (n : Nat) (c : Int) (h0 : 0 ≤ c) (h : c + (n : Int) ≤ 4611686018427387900) : ∃ K, ∀ k, K ≤ k → laws_heldWord.f k (marks .u16 c n) c = some (c + (n : Int)) :=
  held_ev (fun _ _ _ => rfl) (fun _ _ _ _ => rfl) n c h0 h

/-- how many letters words have -/
def tot : List (List Int) → Nat
  | [] => 0
  | x :: xs => x.length + tot xs
/-- words that bear the numbers from k on -/
def mL (k : Int) : List (List Int) → List (List Int)
  | [] => []
  | x :: xs => marks .u16 k x.length :: mL (k + (x.length : Int)) xs
theorem tot_append (a b : List (List Int)) : tot (a ++ b) = tot a + tot b := by
  induction a with
  | nil => simp [tot]
  | cons x xs ih => simp only [List.cons_append, tot, ih]; omega
theorem mL_append (a b : List (List Int)) : ∀ k, mL k (a ++ b) = mL k a ++ mL (k + (tot a : Int)) b := by
  induction a with
  | nil => intro k; simp [mL, tot]
  | cons x xs ih => intro k; simp only [List.cons_append, mL, ih, tot]; congr 3; omega
theorem mL_length (l : List (List Int)) : ∀ k, (mL k l).length = l.length := by
  induction l with
  | nil => intro k; rfl
  | cons x xs ih => intro k; simp only [mL, List.length_cons, ih]
theorem tot_take (l : List (List Int)) {i : Nat} (h : i < l.length) : tot (l.take (i + 1)) = tot (l.take i) + (l.getD i []).length := by
  rw [List.take_add_one, tot_append, List.getElem?_eq_getElem h]
  simp [tot, List.getD, h]
theorem tot_take_le (l : List (List Int)) (i : Nat) : tot (l.take i) ≤ tot l := by
  have := tot_append (l.take i) (l.drop i)
  rw [List.take_append_drop] at this
  omega
theorem tot_le (l : List (List Int)) (n : Nat) (h : ∀ x ∈ l, x.length ≤ n) : tot l ≤ l.length * n := by
  induction l with
  | nil => simp [tot]
  | cons x xs ih =>
    have h1 := ih (fun y hy => h y (List.mem_cons_of_mem _ hy))
    have h2 := h x (List.mem_cons_self)
    simp only [tot, List.length_cons, Nat.succ_mul]
    omega
/-- so many words are marked -/
def mAt (k : Int) (l : List (List Int)) (i : Nat) : List (List Int) := mL k (l.take i) ++ l.drop i
theorem mAt_length (k : Int) (l : List (List Int)) (i : Nat) : (mAt k l i).length = l.length := by
  unfold mAt
  rw [List.length_append, mL_length, List.length_take, List.length_drop]
  omega
theorem mAt_all (k : Int) (l : List (List Int)) : mAt k l l.length = mL k l := by unfold mAt; rw [List.take_length, List.drop_length, List.append_nil]
theorem mAt_get (k : Int) (l : List (List Int)) {i : Nat} (h : i < l.length) : (mAt k l i).getD i [] = l.getD i [] := by
  unfold mAt
  have e : (mL k (l.take i)).length = i := by rw [mL_length, List.length_take]; omega
  simp [List.getD, List.getElem?_append, e]
theorem mAt_succ (k : Int) (l : List (List Int)) {i : Nat} (h : i < l.length) : (mAt k l i).set i (marks .u16 (k + (tot (l.take i) : Int)) (l.getD i []).length) = mAt k l (i + 1) := by
  have e : (mL k (l.take i)).length = i := by rw [mL_length, List.length_take]; omega
  have hd : l.drop i = l[i] :: l.drop (i + 1) := List.drop_eq_getElem_cons h
  have ht : l.take (i + 1) = l.take i ++ [l[i]] := by rw [List.take_add_one, List.getElem?_eq_getElem h]; rfl
  have hg : l.getD i [] = l[i] := by simp [List.getD, h]
  unfold mAt
  rw [ht, mL_append, hd, hg, List.set_append, if_neg (by omega), e, Nat.sub_self, List.set_cons_zero, List.append_assoc]
  rfl
theorem held_get (k : Int) (l : List (List Int)) {i : Nat} (h : i < l.length) : (mL k l).getD i [] = marks .u16 (k + (tot (l.take i) : Int)) (l.getD i []).length := by
  have hs : l = l.take i ++ (l[i] :: l.drop (i + 1)) := by rw [← List.drop_eq_getElem_cons h, List.take_append_drop]
  have hg : l.getD i [] = l[i] := by simp [List.getD, h]
  have e : (mL k (l.take i)).length = i := by rw [mL_length, List.length_take]; omega
  have e2 : mL k l = mL k (l.take i) ++ (marks .u16 (k + (tot (l.take i) : Int)) (l[i]).length :: mL (k + (tot (l.take i) : Int) + ((l[i]).length : Int)) (l.drop (i + 1))) := by
    have := mL_append (l.take i) (l[i] :: l.drop (i + 1)) k
    rw [← hs] at this
    exact this
  rw [e2, hg]
  simp [List.getD, List.getElem?_append, e]
theorem heldWS_loop (l : List (List Int)) (c : Int) (h0 : 0 ≤ c) (h : c + (tot l : Int) ≤ 1000000000) (hl : l.length ≤ 1048576) : ∀ d i, i + d = l.length → Ev (fun k => laws_heldWordS.l0 k (mL c l) (c + (tot (l.take i) : Int)) (i : Int)) (c + (tot l : Int)) := by
  intro d
  induction d with
  | zero =>
    intro i hi
    have e : i = l.length := by omega
    subst e
    rw [List.take_length]
    exact Ev.step (f := fun _ => some (c + (tot l : Int))) (fun k => by simp only [laws_heldWordS.l0]; rw [if_neg (by rw [mL_length]; omega)]) (Ev.now _)
  | succ d ih =>
    intro i hi
    have ht := tot_take l (show i < l.length by omega)
    have hle := tot_take_le l (i + 1)
    have hw := heldWord_ev (l.getD i []).length (c + (tot (l.take i) : Int)) (by omega) (by omega)
    refine Ev.step (f := fun k => (laws_heldWord.f k (marks .u16 (c + (tot (l.take i) : Int)) (l.getD i []).length) (c + (tot (l.take i) : Int))).bind fun t => if t < 0 then some (-1) else laws_heldWordS.l0 k (mL c l) t ((i + 1 : Nat) : Int)) (fun k => ?_) (Ev.bind hw ?_)
    · simp only [laws_heldWordS.l0]
      rw [if_pos (by rw [mL_length]; omega), if_pos (by omega), rdL1', held_get c l (by omega), w64s (by omega)]
    · have e := ih (i + 1) (by omega)
      rw [ht] at e
      rw [show c + ((tot (l.take i) + (l.getD i []).length : Nat) : Int) = c + (tot (l.take i) : Int) + ((l.getD i []).length : Int) by omega] at e
      exact Ev.congr (fun k => if_neg (by omega)) e
theorem heldWS_ev (l : List (List Int)) (c : Int) (h0 : 0 ≤ c) (h : c + (tot l : Int) ≤ 1000000000) (hl : l.length ≤ 1048576) : Ev (fun k => laws_heldWordS.f k (mL c l) c) (c + (tot l : Int)) := by
  have e := heldWS_loop l c h0 h hl l.length 0 (by omega)
  simp only [List.take_zero, tot, Int.natCast_zero, Int.add_zero] at e
  exact e
set_option maxHeartbeats 2000000 in
set_option maxRecDepth 100000 in
theorem markWS_calls (l : List (List Int)) (k : Int) (h0 : 0 ≤ k) (hk : k + (tot l : Int) ≤ 1000000000) (hl : l.length ≤ 1048576) (A : Option Addr) (c : Nat) (w0 w : World) (hB : Below w0.heap.size w0 w) (hS : Kd.S (Kd.slice 64 (Kd.int .u16)) 42 w w0.heap.size (fun _ => True) (.slice A l.length c) l) :
    Calls Try.prog 17 #[.slice A l.length c, .int .i64 k] w fun e w' => e = .returned (.int .i64 (k + (tot l : Int))) ∧ Kd.S (Kd.slice 64 (Kd.int .u16)) 42 w' w0.heap.size (fun _ => True) (.slice A l.length c) (mL k l) ∧ Below w0.heap.size w0 w' := by
  have HB := Lib.hid hB
  have HS : Hid (Kd.S (Kd.slice 64 (Kd.int .u16)) 42 w w0.heap.size (fun _ => True) (.slice A l.length c) (mAt k l 0)) := Lib.hid hS
  have HK := Lib.hid (And.intro h0 (And.intro hk hl))
  have HT0 : Hid (k = k + (tot (l.take 0) : Int)) := Lib.hid (by simp [tot])
  have hmax : l.length ≤ 9223372036854775807 := by omega
  clear hB hS h0 hk hl
  go_enter Try.func17, Try.ntmps17
  go_wp2
  go_loopg [1, 5] l.length (fun gg v1 v5 wr => ∃ i : Nat, Hid (i ≤ l.length) ∧ Hid (l.length - i ≤ gg) ∧ v5 = .int .i64 (i : Int) ∧ v1 = .int .i64 (k + (tot (l.take i) : Int)) ∧ Hid (Kd.S (Kd.slice 64 (Kd.int .u16)) 42 wr w0.heap.size (fun _ => True) (.slice A l.length c) (mAt k l i)) ∧ Hid (Below w0.heap.size w0 wr))
  case atStart => exact ⟨0, Lib.hid (Nat.zero_le _), Lib.hid (Nat.sub_le _ _), rfl, by rw [← HT0.out], HS, HB⟩
  case round =>
    clear HS HB HT0
    obtain ⟨i, hi, hg, rfl, rfl, HS, HB⟩ := hrel
    by_cases hlt : i < l.length
    · have HLT := Lib.hid hlt
      have HW := Lib.hid (markWord_ev (l.getD i []) (k + (tot (l.take i) : Int)) (by have := HK.out; omega) (by have h1 := tot_take l hlt; have h2 := tot_take_le l (i + 1); have := HK.out; omega))
      have HT := Lib.hid (tot_take l hlt)
      have HM := Lib.hid (mAt_succ k l hlt)
      have HG := Lib.hid (mAt_get k l hlt)
      obtain ⟨g, cap, ev, _, _, _⟩ := Kd.S_form HS.out (by rw [mAt_length]; omega)
      rw [mAt_length] at ev
      simp only [Value.slice.injEq, true_and] at ev
      obtain ⟨rfl, rfl⟩ := ev
      obtain ⟨oki, cs, hcl, hM, hcc, hfr, hoki, hH⟩ := Kd.S_elem HS.out [] (i : Int) (by omega) (by omega)
      rw [Int.toNat_natCast, HG.out] at hM
      rw [Int.toNat_natCast] at hcc hfr
      obtain ⟨v, rfl, hR⟩ := hM
      obtain ⟨A', c', rfl⟩ := Kd.R_slice hR
      have hx := hcc 0 _ rfl
      rw [show i * (Kd.slice 64 (Kd.int .u16)).sz + 0 = i by show i * 1 + 0 = i; omega] at hx
      have HR := Lib.hid hR
      have HH := Lib.hid hH
      have HOK := Lib.hid hoki
      have hb0 : decide ((i : Int) < (l.length : Int)) = true := decide_eq_true (by omega)
      have hb1 : (i : Int) < (l.length : Int) := by omega
      have hi0 : (0 : Int) ≤ (i : Int) := by omega
      have hnb : i < 9223372036854775807 := by omega
      clear hcl hcc hfr hoki hH hlt hR HS
      generalize l.getD i [] = x at HW HT HM HR hx HG HH
      generalize tot (l.take i) = t at HW HT HM hx
      obtain ⟨K2, hK2⟩ := HW.out
      have HMW := Lib.hid (laws_markWord.calls K2 oki (.slice A' x.length c') x (k + (t : Int)) _ _ w0 wr HB.out HR.out (hK2 K2 (Nat.le_refl _)))
      clear hK2 HW
      go_wp2_with (go_at_call 29; (with_reducible refine HMW.out.mono ?_); rintro e w1 ⟨rfl, hr, hb, hkp⟩; have HR1 := Lib.hid hr; have HB1 := Lib.hid hb; have HKP := Lib.hid hkp; clear hr hb hkp)
      go_roundg (l.length - (i + 1))
      case measure => have := hg.out; have := HLT.out; omega
      case rel =>
        refine ⟨i + 1, Lib.hid HLT.out, Lib.hid (Nat.le_refl _), by first | rfl | go_num, ?_, ?_, HB1⟩
        · rw [HT.out]; congr 1; omega
        · refine Lib.hid ?_
          rw [← HM.out]
          have h2 := Kd.H_step HH.out (fun k_ _ hno hlt2 => HKP.out.2 k_ hlt2 hno)
          have h3 := Kd.H_back h2 (Kd.M_row (Kd.R_reok (ok := oki) rfl HR1.out (fun k_ hk_ => HR.out.1 k_ hk_))) (fun _ h_ => h_)
          rw [Int.toNat_natCast] at h3
          exact h3
    · have en : i = l.length := by have := hi.out; omega
      subst en
      have hb0 : decide ((l.length : Int) < (l.length : Int)) = false := decide_eq_false (by omega)
      have HF : Hid (mAt k l l.length = mL k l) := Lib.hid (mAt_all k l)
      have HT : Hid (tot (l.take l.length) = tot l) := Lib.hid (by rw [List.take_length])
      rw [HT.out]
      rw [HF.out] at HS
      clear hi hg hlt HF HT
      go_wp2
      go_ret
      exact ⟨rfl, HS.out, HB.out⟩

end Go.Proofs.Ytabdpdnofljkcaa.Given
