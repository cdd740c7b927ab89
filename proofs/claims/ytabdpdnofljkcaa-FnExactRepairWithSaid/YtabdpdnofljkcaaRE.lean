/- The law of RepairWith: walked. -/
import Derived.Test.YtabdpdnofljkcaaProg
import Derived.Below
import Derived.Deep.Draws
import Derived.Deep.AppendLies
import Derived.Maps.AppendAt
import Derived.OwnWalk
import Derived.Laws.BytesArg
import Derived.Laws.MakeOwn
import Derived.Laws.OwnMore
import Derived.Deep.OwnRows
import Derived.Tactics
import Derived.Lib.ConvBytes
import Derived.Laws.Slices
import Derived.WalkKit
import Derived.KernelRfl
import Derived.RowKit3
import Derived.Deep.LoopGhost
import Derived.Deep.QuietTactic
import Derived.BigQuiet
import Derived.WideLaws
import Derived.Deep.DeepCutAuto
import Derived.Deep.CutBlock
import Derived.Deep.RegionHeld3
import Derived.Laws.Rows
import Derived.Lib.AppendStr
import Derived.ArgAppend
import Derived.Laws.IdiomCopy
import Derived.OrdersHeld
import Derived.Laws.BitsLemmas
import Derived.RowKit
import Derived.Lib.Hide
import Derived.WalkSpells
import Derived.Test.YtabdpdnofljkcaaWWords
import Derived.Test.YtabdpdnofljkcaaWLast
import Derived.Test.YtabdpdnofljkcaaWTab
import Derived.Test.YtabdpdnofljkcaaWFour
import Derived.Test.YtabdpdnofljkcaaWQPut
import Derived.Test.YtabdpdnofljkcaaWApart
import Derived.Test.YtabdpdnofljkcaaWArr
import Derived.Test.YtabdpdnofljkcaaWZeros
import Derived.Test.YtabdpdnofljkcaaWFoot
import Derived.Test.YtabdpdnofljkcaaWKept
import Derived.Test.YtabdpdnofljkcaaWShare
import Derived.Test.YtabdpdnofljkcaaWN
import Derived.Test.YtabdpdnofljkcaaWFootNe
import Derived.Test.YtabdpdnofljkcaaWAt
import Derived.Test.YtabdpdnofljkcaaWEqStruct
import Derived.Test.YtabdpdnofljkcaaWRepsOne
import Derived.Test.YtabdpdnofljkcaaWInv
import Derived.Test.YtabdpdnofljkcaaWInvWords
import Derived.Test.YtabdpdnofljkcaaWGuard
import Derived.Test.YtabdpdnofljkcaaWNEv
import Derived.Test.YtabdpdnofljkcaaWMore
import Derived.Test.YtabdpdnofljkcaaN1
import Derived.Test.YtabdpdnofljkcaaRD
import Derived.Lib.SmallJoins
namespace Go.Proofs.Ytabdpdnofljkcaa.Given
open Go.RowKit Go.Proofs.YtabdpdnofljkcaaW.PrintWords Go.Proofs.YtabdpdnofljkcaaW.PrintLast Go.Proofs.YtabdpdnofljkcaaW.PrintMore Go.Proofs.Ytabdpdnofljkcaa.NimF Go.Proofs.Ytabdpdnofljkcaa.NimGo
set_option linter.unusedVariables false
set_option linter.unusedSimpArgs false
open Go.Proofs.Ytabdpdnofljkcaa.RFnExactRepairWith
open Go.Proofs.Ytabdpdnofljkcaa.NimF
open Go.Proofs.Ytabdpdnofljkcaa.NimGo
theorem markWord_ev (l : List Int) (c : Int) (h0 : 0 ≤ c) (h : c + (l.length : Int) ≤ 4611686018427387900) : ∃ K, ∀ k, K ≤ k → laws_markWord.f k l c = some (c + (l.length : Int), marks .u16 c l.length) :=
  mark_ev (fun _ _ _ => rfl) (fun _ _ _ _ => rfl) l c h0 h
theorem heldWord_ev (n : Nat) (c : Int) (h0 : 0 ≤ c) (h : c + (n : Int) ≤ 4611686018427387900) : ∃ K, ∀ k, K ≤ k → laws_heldWord.f k (marks .u16 c n) c = some (c + (n : Int)) :=
  held_ev (fun _ _ _ => rfl) (fun _ _ _ _ => rfl) n c h0 h

/-- how many letters words have -/
def tot : List (List Int) → Nat
  | [] => 0
  | x :: xs => x.length + tot xs
/-- words that bear the numbers from k on -/
def mL (k : Int) : List (List Int) → List (List Int)
  | [] => []
  | x :: xs => marks .u16 k x.length :: mL (k + (x.length : Int)) xs
theorem tot_append (a b : List (List Int)) : tot (a ++ b) = tot a + tot b := by
  induction a with
  | nil => simp [tot]
  | cons x xs ih => simp only [List.cons_append, tot, ih]; omega
theorem mL_append (a b : List (List Int)) : ∀ k, mL k (a ++ b) = mL k a ++ mL (k + (tot a : Int)) b := by
  induction a with
  | nil => intro k; simp [mL, tot]
  | cons x xs ih => intro k; simp only [List.cons_append, mL, ih, tot]; congr 3; omega
theorem mL_length (l : List (List Int)) : ∀ k, (mL k l).length = l.length := by
  induction l with
  | nil => intro k; rfl
  | cons x xs ih => intro k; simp only [mL, List.length_cons, ih]
theorem tot_take (l : List (List Int)) {i : Nat} (h : i < l.length) : tot (l.take (i + 1)) = tot (l.take i) + (l.getD i []).length := by
  rw [List.take_add_one, tot_append, List.getElem?_eq_getElem h]
  simp [tot, List.getD, h]
theorem tot_take_le (l : List (List Int)) (i : Nat) : tot (l.take i) ≤ tot l := by
  have := tot_append (l.take i) (l.drop i)
  rw [List.take_append_drop] at this
  omega
theorem tot_le (l : List (List Int)) (n : Nat) (h : ∀ x ∈ l, x.length ≤ n) : tot l ≤ l.length * n := by
  induction l with
  | nil => simp [tot]
  | cons x xs ih =>
    have h1 := ih (fun y hy => h y (List.mem_cons_of_mem _ hy))
    have h2 := h x (List.mem_cons_self)
    simp only [tot, List.length_cons, Nat.succ_mul]
    omega
/-- so many words are marked -/
def mAt (k : Int) (l : List (List Int)) (i : Nat) : List (List Int) := mL k (l.take i) ++ l.drop i
theorem mAt_length (k : Int) (l : List (List Int)) (i : Nat) : (mAt k l i).length = l.length := by
  unfold mAt
  rw [List.length_append, mL_length, List.length_take, List.length_drop]
  omega
theorem mAt_all (k : Int) (l : List (List Int)) : mAt k l l.length = mL k l := by unfold mAt; rw [List.take_length, List.drop_length, List.append_nil]
theorem mAt_get (k : Int) (l : List (List Int)) {i : Nat} (h : i < l.length) : (mAt k l i).getD i [] = l.getD i [] := by
  unfold mAt
  have e : (mL k (l.take i)).length = i := by rw [mL_length, List.length_take]; omega
  simp [List.getD, List.getElem?_append, e]
theorem mAt_succ (k : Int) (l : List (List Int)) {i : Nat} (h : i < l.length) : (mAt k l i).set i (marks .u16 (k + (tot (l.take i) : Int)) (l.getD i []).length) = mAt k l (i + 1) := by
  have e : (mL k (l.take i)).length = i := by rw [mL_length, List.length_take]; omega
  have hd : l.drop i = l[i] :: l.drop (i + 1) := List.drop_eq_getElem_cons h
  have ht : l.take (i + 1) = l.take i ++ [l[i]] := by rw [List.take_add_one, List.getElem?_eq_getElem h]; rfl
  have hg : l.getD i [] = l[i] := by simp [List.getD, h]
  unfold mAt
  rw [ht, mL_append, hd, hg, List.set_append, if_neg (by omega), e, Nat.sub_self, List.set_cons_zero, List.append_assoc]
  rfl
set_option maxHeartbeats 2000000 in
set_option maxRecDepth 100000 in
theorem markWS_calls (l : List (List Int)) (k : Int) (h0 : 0 ≤ k) (hk : k + (tot l : Int) ≤ 4611686018427387000) (hl : l.length ≤ 1048576) (A : Option Addr) (c : Nat) (P : Nat → Prop) (w0 w : World) (hB : Below w0.heap.size w0 w) (hS : Kd.S (Kd.slice 64 (Kd.int .u16)) 42 w w0.heap.size P (.slice A l.length c) l) :
    Calls Try.prog 17 #[.slice A l.length c, .int .i64 k] w fun e w' => e = .returned (.int .i64 (k + (tot l : Int))) ∧ Kd.S (Kd.slice 64 (Kd.int .u16)) 42 w' w0.heap.size P (.slice A l.length c) (mL k l) ∧ Below w0.heap.size w0 w' ∧ Kept w w' P := by
  have HKE : Hid (Kept w w P) := Lib.hid (Kept.refl _ _)
  have HB := Lib.hid hB
  have HS : Hid (Kd.S (Kd.slice 64 (Kd.int .u16)) 42 w w0.heap.size P (.slice A l.length c) (mAt k l 0)) := Lib.hid hS
  have HK := Lib.hid (And.intro h0 (And.intro hk hl))
  have HT0 : Hid (k = k + (tot (l.take 0) : Int)) := Lib.hid (by simp [tot])
  have hmax : l.length ≤ 9223372036854775807 := by omega
  clear hB hS h0 hk hl
  go_enter Try.func17, Try.ntmps17
  go_wp2
  go_loopg [1, 5] l.length (fun gg v1 v5 wr => ∃ i : Nat, Hid (i ≤ l.length) ∧ Hid (l.length - i ≤ gg) ∧ v5 = .int .i64 (i : Int) ∧ v1 = .int .i64 (k + (tot (l.take i) : Int)) ∧ Hid (Kd.S (Kd.slice 64 (Kd.int .u16)) 42 wr w0.heap.size P (.slice A l.length c) (mAt k l i)) ∧ Hid (Below w0.heap.size w0 wr) ∧ Hid (Kept w wr P))
  case atStart => exact ⟨0, Lib.hid (Nat.zero_le _), Lib.hid (Nat.sub_le _ _), rfl, by rw [← HT0.out], HS, HB, HKE⟩
  case round =>
    clear HS HB HT0 HKE
    obtain ⟨i, hi, hg, rfl, rfl, HS, HB, HKE⟩ := hrel
    by_cases hlt : i < l.length
    · have HLT := Lib.hid hlt
      have HW := Lib.hid (markWord_ev (l.getD i []) (k + (tot (l.take i) : Int)) (by have := HK.out; omega) (by have h1 := tot_take l hlt; have h2 := tot_take_le l (i + 1); have := HK.out; omega))
      have HT := Lib.hid (tot_take l hlt)
      have HM := Lib.hid (mAt_succ k l hlt)
      have HG := Lib.hid (mAt_get k l hlt)
      obtain ⟨g, cap, ev, _, _, _⟩ := Kd.S_form HS.out (by rw [mAt_length]; omega)
      rw [mAt_length] at ev
      simp only [Value.slice.injEq, true_and] at ev
      obtain ⟨rfl, rfl⟩ := ev
      obtain ⟨oki, cs, hcl, hM, hcc, hfr, hoki, hH⟩ := Kd.S_elem HS.out [] (i : Int) (by omega) (by omega)
      rw [Int.toNat_natCast, HG.out] at hM
      rw [Int.toNat_natCast] at hcc hfr
      obtain ⟨v, rfl, hR⟩ := hM
      obtain ⟨A', c', rfl⟩ := Kd.R_slice hR
      have hx := hcc 0 _ rfl
      rw [show i * (Kd.slice 64 (Kd.int .u16)).sz + 0 = i by show i * 1 + 0 = i; omega] at hx
      have HR := Lib.hid hR
      have HH := Lib.hid hH
      have HOK := Lib.hid hoki
      have hb0 : decide ((i : Int) < (l.length : Int)) = true := decide_eq_true (by omega)
      have hb1 : (i : Int) < (l.length : Int) := by omega
      have hi0 : (0 : Int) ≤ (i : Int) := by omega
      have hnb : i < 9223372036854775807 := by omega
      clear hcl hcc hfr hoki hH hlt hR HS
      generalize l.getD i [] = x at HW HT HM HR hx HG HH
      generalize tot (l.take i) = t at HW HT HM hx
      obtain ⟨K2, hK2⟩ := HW.out
      have HMW := Lib.hid (laws_markWord.calls K2 oki (.slice A' x.length c') x (k + (t : Int)) _ _ w0 wr HB.out HR.out (hK2 K2 (Nat.le_refl _)))
      clear hK2 HW
      go_wp2_with (go_at_call 29; (with_reducible refine HMW.out.mono ?_); rintro e w1 ⟨rfl, hr, hb, hkp⟩; have HR1 := Lib.hid hr; have HB1 := Lib.hid hb; have HKP := Lib.hid hkp; clear hr hb hkp)
      go_roundg (l.length - (i + 1))
      case measure => have := hg.out; have := HLT.out; omega
      case rel =>
        refine ⟨i + 1, Lib.hid HLT.out, Lib.hid (Nat.le_refl _), by first | rfl | go_num, ?_, ?_, HB1, Lib.hid (Kept.then_ HKE.out HKP.out (fun k_ hk_ => .inl (HOK.out k_ hk_).1))⟩
        · rw [HT.out]; congr 1; omega
        · refine Lib.hid ?_
          rw [← HM.out]
          have h2 := Kd.H_step HH.out (fun k_ _ hno hlt2 => HKP.out.2 k_ hlt2 hno)
          have h3 := Kd.H_back h2 (Kd.M_row (Kd.R_reok (ok := oki) rfl HR1.out (fun k_ hk_ => HR.out.1 k_ hk_))) (fun _ h_ => h_)
          rw [Int.toNat_natCast] at h3
          exact h3
    · have en : i = l.length := by have := hi.out; omega
      subst en
      have hb0 : decide ((l.length : Int) < (l.length : Int)) = false := decide_eq_false (by omega)
      have HF : Hid (mAt k l l.length = mL k l) := Lib.hid (mAt_all k l)
      have HT : Hid (tot (l.take l.length) = tot l) := Lib.hid (by rw [List.take_length])
      rw [HT.out]
      rw [HF.out] at HS
      clear hi hg hlt HF HT
      go_wp2
      go_ret
      exact ⟨rfl, HS.out, HB.out, HKE.out⟩
theorem repF_len {n : Nat} : ∀ (F : List (List Int)), (∀ x ∈ F, x.length ≤ n) → (repF F).1.length ≤ n
  | [], _ => by simp [repF]
  | [x], h => h x (by simp)
  | _ :: _ :: _, _ => by simp [repF]
theorem rep_len (b : Int) (l : List (List Int)) (x : List Int) (t : Int) (h : ∀ y ∈ l, y.length ≤ 1048576) : (repR b l x t).1.length ≤ 1048576 := by
  unfold repR
  split
  · split
    · exact repF_len _ (fun y hy => h y (List.mem_filter.1 hy).1)
    · simp
  · simp
set_option maxHeartbeats 1000000 in
theorem law_long (b : Int) (A1 : Option Addr) (c1 : Nat) (l : List (List Int)) (A2 : Option Addr) (c2 : Nat) (x : List Int) (t : Int) (w : World) (hr1 : Kd.C (Kd.slice 38 (Kd.int .u16)) w A1 l.length l) (hc1 : l.length ≤ c1) (hr2 : Kd.C (Kd.int .u16) w A2 x.length x) (hc2 : x.length ≤ c2) (h : 1048576 < x.length) : Calls Try.prog 8 #[.int .i64 b, .slice A1 l.length c1, .slice A2 x.length c2, .int .i64 t] w fun e w' => e = .returned (.bool true) ∧ Below w.heap.size w w' := by
  have hq : (1048576 : Int) < (x.length : Int) := by omega
  clear hr1 hc1 hr2 hc2 h
  go_enter Try.func8, Try.ntmps8
  go_wp2
  go_ret
  exact ⟨rfl, Below.refl _ _⟩
set_option maxHeartbeats 1000000 in
theorem law_sized (b : Int) (A1 : Option Addr) (c1 : Nat) (l : List (List Int)) (A2 : Option Addr) (c2 : Nat) (x : List Int) (t : Int) (w : World) (hr1 : Kd.C (Kd.slice 38 (Kd.int .u16)) w A1 l.length l) (hc1 : l.length ≤ c1) (hr2 : Kd.C (Kd.int .u16) w A2 x.length x) (hc2 : x.length ≤ c2) (h : x.length ≤ 1048576) (v : Int) (hv : Ev (fun k => laws_szWordS.f k l 1048576) v) (hn : v < 0) : Calls Try.prog 8 #[.int .i64 b, .slice A1 l.length c1, .slice A2 x.length c2, .int .i64 t] w fun e w' => e = .returned (.bool true) ∧ Below w.heap.size w w' := by
  have hq : (x.length : Int) ≤ (1048576 : Int) := by omega
  obtain ⟨K, hK⟩ := hv
  have HSZ := Lib.hid (laws_szWordS.calls K A1 c1 l 1048576 v w hr1 hc1 (hK K (Nat.le_refl _)))
  clear hr1 hc1 hr2 hc2 h hK
  go_enter Try.func8, Try.ntmps8
  go_wp2_with (go_at_call 9; (with_reducible refine HSZ.out.mono ?_); rintro e w1 ⟨rfl, ⟨nd, rfl⟩⟩)
  go_ret
  exact ⟨rfl, pw_below_drewN (Below.refl _ _) _⟩
set_option maxHeartbeats 4000000 in
set_option maxRecDepth 100000 in
theorem law_main (b : Int) (A1 : Option Addr) (c1 : Nat) (l : List (List Int)) (A2 : Option Addr) (c2 : Nat) (x : List Int) (t : Int) (w : World) (hr1 : Kd.C (Kd.slice 38 (Kd.int .u16)) w A1 l.length l) (hc1 : l.length ≤ c1) (hr2 : Kd.C (Kd.int .u16) w A2 x.length x) (hc2 : x.length ≤ c2) (h : x.length ≤ 1048576) (v : Int) (hv : Ev (fun k => laws_szWordS.f k l 1048576) v) (hn : ¬ v < 0) (hl : l.length ≤ 1048576) (hx : ∀ y ∈ l, y.length ≤ 1048576) (hw1 : ∀ y ∈ l, ∀ n ∈ y, (Lit.int .u16 n).wf = true) (hw2 : ∀ n ∈ x, (Lit.int .u16 n).wf = true) : Calls Try.prog 8 #[.int .i64 b, .slice A1 l.length c1, .slice A2 x.length c2, .int .i64 t] w fun e w' => e = .returned (.bool true) ∧ Below w.heap.size w w' := by
  have hq : (x.length : Int) ≤ (1048576 : Int) := by omega
  obtain ⟨K0, hK0⟩ := hv
  have HSZ := Lib.hid (laws_szWordS.calls K0 A1 c1 l 1048576 v w hr1 hc1 (hK0 K0 (Nat.le_refl _)))
  obtain ⟨K1, hK1⟩ := toWordS_ev l hl hx
  obtain ⟨K2, hK2⟩ := toWord_ev x h
  obtain ⟨K3, hK3⟩ := srep b l x t hl (fun y hy => ⟨hx y hy, hw1 y hy⟩) h hw2
  have hrl := rep_len b l x t hx
  have HTS : Hid (∀ W, Below w.heap.size w W → Calls Try.prog 11 #[.slice A1 l.length c1] W fun e w' => ∃ v0_ : Value, e = .returned v0_ ∧ Kd.S (Kd.slice 64 (Kd.int .u16)) 42 w' W.heap.size (fun _ => True) v0_ l ∧ Below W.heap.size W w') := Lib.hid (fun W hW => laws_toWordS.calls K1 A1 c1 l l W (Kd.C_below hr1 hW) hc1 (hK1 K1 (Nat.le_refl _)))
  have HTW : Hid (∀ W, Below w.heap.size w W → Calls Try.prog 22 #[.slice A2 x.length c2] W fun e w' => ∃ v0_ : Value, e = .returned v0_ ∧ Kd.R (Kd.int .u16) 64 w' W.heap.size (fun _ => True) v0_ x ∧ Below W.heap.size W w') := Lib.hid (fun W hW => laws_toWord.calls K2 A2 c2 x x W (Kd.C_below hr2 hW) hc2 (hK2 K2 (Nat.le_refl _)))
  have hIM : ∀ (A : Option Addr) (c : Nat) (A' : Option Addr) (c' : Nat) (W : World), Kd.C (Kd.slice 64 (Kd.int .u16)) W A l.length l → l.length ≤ c → Kd.C (Kd.int .u16) W A' x.length x → x.length ≤ c' → Calls Try.prog 28 #[.int .i64 b, .slice A l.length c, .slice A' x.length c', .int .i64 t] W fun e w' => ∃ v0_ : Value, e = .returned (.tuple #[v0_, .int .i64 (repR b l x t).2]) ∧ Kd.R (Kd.int .u16) 64 w' W.heap.size (fun _ => True) v0_ (repR b l x t).1 ∧ Below W.heap.size W w' := fun A c A' c' W h1 h2 h3 h4 => rep_calls b A c l A' c' x t W h1 h2 h3 h4 hl
  obtain ⟨r1, r2, hr⟩ : ∃ r1 r2, repR b l x t = (r1, r2) := ⟨_, _, rfl⟩
  rw [hr] at hK3 hIM hrl
  replace hrl : r1.length ≤ 1048576 := hrl
  have HIM := Lib.hid hIM
  have HSP : Hid (∀ (A : Option Addr) (c : Nat) (A' : Option Addr) (c' : Nat) (W : World), Kd.C (Kd.slice 64 (Kd.int .u16)) W A l.length l → l.length ≤ c → Kd.C (Kd.int .u16) W A' x.length x → x.length ≤ c' → Calls Try.prog 27 #[.int .i64 b, .slice A l.length c, .slice A' x.length c', .int .i64 t] W fun e w' => ∃ v0_ : Value, e = .returned (.tuple #[v0_, .int .i64 r2]) ∧ Kd.R (Kd.int .u16) 64 w' W.heap.size (fun _ => True) v0_ r1 ∧ Below W.heap.size W w') := Lib.hid (fun A c A' c' W h1 h2 h3 h4 => spec_RepairWith.calls K3 b A c l A' c' x t r1 r2 W h1 h2 h3 h4 (hK3 K3 (Nat.le_refl _)))
  have HEQ : Hid (∀ (y : List Int), y.length ≤ 1048576 → ∀ (A : Option Addr) (c : Nat) (A' : Option Addr) (c' : Nat) (W : World), Kd.C (Kd.int .u16) W A y.length y → y.length ≤ c → Kd.C (Kd.int .u16) W A' y.length y → y.length ≤ c' → Calls Try.prog 24 #[.slice A y.length c, .slice A' y.length c'] W fun e w' => e = .returned (.bool true) ∧ Drawn0 W w') := Lib.hid (fun y hy A c A' c' W h1 h2 h3 h4 => by
    obtain ⟨K, hK⟩ := eqWord_ev y hy
    exact laws_eqWord.calls K A c y A' c' y true W h1 h2 h3 h4 (hK K (Nat.le_refl _)))
  have HER := fun A c A' c' W h1 h2 h3 h4 => Lib.hid (HEQ.out r1 hrl A c A' c' W h1 h2 h3 h4)
  have HEX := fun A c A' c' W h1 h2 h3 h4 => Lib.hid (HEQ.out x h A c A' c' W h1 h2 h3 h4)
  obtain ⟨K4, hK4⟩ := eqWordS_ev l hl hx
  have HES := fun A c A' c' W h1 h2 h3 h4 => Lib.hid (laws_eqWordS.calls K4 A c l A' c' l true W h1 h2 h3 h4 (hK4 K4 (Nat.le_refl _)))
  have htl := tot_le l 1048576 hx
  have htl2 : l.length * 1048576 ≤ 1048576 * 1048576 := Nat.mul_le_mul_right _ hl
  have HMS := fun A c P w0 W hB hS => Lib.hid (markWS_calls l 1 (by omega) (by omega) hl A c P w0 W hB hS)
  obtain ⟨K5, hK5⟩ := markWord_ev x (1 + (tot l : Int)) (by omega) (by omega)
  have HMX := fun P u w0 W hB ho => Lib.hid (laws_markWord.calls K5 P u x (1 + (tot l : Int)) _ _ w0 W hB ho (hK5 K5 (Nat.le_refl _)))
  obtain ⟨K6, hK6⟩ := markWord_ev r1 1 (by omega) (by omega)
  have HMR := fun P u w0 W hB ho => Lib.hid (laws_markWord.calls K6 P u r1 1 _ _ w0 W hB ho (hK6 K6 (Nat.le_refl _)))
  obtain ⟨K7, hK7⟩ := heldWord_ev r1.length 1 (by omega) (by omega)
  have hhe := fun A c W h1 h2 => laws_heldWord.calls K7 A c (marks .u16 1 r1.length) 1 _ W h1 h2 (hK7 K7 (Nat.le_refl _))
  simp only [marks_length] at hhe
  have HHE := fun A c W h1 h2 => Lib.hid (hhe A c W h1 h2)
  have htt : ¬ (1 + (tot l : Int) + (x.length : Int) < 0) := by omega
  have hqq : ¬ (1 + (r1.length : Int) < 0) := by omega
  generalize 1 + (tot l : Int) = tt at HMS HMX htt
  obtain ⟨t2, ht2⟩ : ∃ t2, tt + (x.length : Int) = t2 := ⟨_, rfl⟩
  obtain ⟨q2, hq2⟩ : ∃ q2, 1 + (r1.length : Int) = q2 := ⟨_, rfl⟩
  rw [ht2] at HMX htt
  rw [hq2] at HMR HHE hqq
  have ht0 : 0 ≤ t2 := by omega
  have hq0 : 0 ≤ q2 := by omega
  have hv0 : 0 ≤ v := by omega
  have HB0 : Hid (Below w.heap.size w w) := Lib.hid (Below.refl _ _)
  clear hr1 hc1 hr2 hc2 h hK0 hK1 hK2 hK3 hK4 hK5 hK6 hK7 hr hIM hrl hl hx hw1 hw2 htl htl2 hhe ht2 hq2 htt hqq hn HEQ
  go_enter Try.func8, Try.ntmps8
  go_wp2_with (first
    | (go_at_call 9; (with_reducible refine HSZ.out.mono ?_);  rintro e wz ⟨rfl, ⟨nz, rfl⟩⟩; have HBz := Lib.hid (pw_below_drewN HB0.out nz))
    | (go_at_call 11; (with_reducible refine (HTS.out _ HBz.out).mono ?_);  rintro e W1 ⟨v1, rfl, hs1, hb1⟩; obtain ⟨A3, c3, ev, hc3, hr3⟩ := Kd.S_reads hs1; subst ev; have HR3 := Lib.hid hr3; have HC3 := Lib.hid hc3; have HB1 := Lib.hid (below_step HBz.out hb1); clear hs1 hb1 hr3 hc3)
    | (go_at_call 22; (with_reducible refine (HTW.out _ HB1.out).mono ?_);  rintro e W2 ⟨v2, rfl, hs2, hb2⟩; obtain ⟨A4, c4, ev, hc4, hr4⟩ := Kd.R_reads hs2; subst ev; have HR4 := Lib.hid hr4; have HC4 := Lib.hid hc4; have HR3b := Lib.hid (Kd.C_below HR3.out hb2); have HB2 := Lib.hid (below_step HB1.out hb2); clear hs2 hb2 hr4 hc4)
    | (go_at_call 27; (with_reducible refine (HSP.out _ _ _ _ _ HR3b.out HC3.out HR4.out HC4.out).mono ?_);  rintro e W3 ⟨vw, rfl, hs3, hb3⟩; have HW := Lib.hid (Kd.R_mono (ok' := fun k => k < W3.heap.size) (Kd.R_bound hs3) (fun _ hk => hk.2.2.1)); have HB3 := Lib.hid (below_step HB2.out hb3); clear hs3 hb3; refine Hid.out ?_))
  refine Lib.hid ?_
  clear HSZ HBz HR3 HR3b HC3 HR4 HC4 HB1 HB2 HSP
  obtain ⟨Aw, cw, ev⟩ := Kd.R_slice HW.out
  subst ev
  go_wp2_with (first
    | (go_at_call 11; (with_reducible refine (HTS.out _ HB3.out).mono ?_);  rintro e W4 ⟨v1, rfl, hs4, hb4⟩; have HX1 := Lib.hid (Kd.S_mono (ok' := fun k => W3.heap.size ≤ k ∧ k < W4.heap.size) (Kd.S_bound hs4) (fun _ hk => ⟨hk.2.1, hk.2.2.1⟩)); have HW4 := Lib.hid (Kd.R_below HW.out hb4); have HB4 := Lib.hid (below_step HB3.out hb4); have HD4 := Lib.hid hb4; clear hs4 hb4)
    | (go_at_call 22; (with_reducible refine (HTW.out _ HB4.out).mono ?_);  rintro e W5 ⟨v2, rfl, hs5, hb5⟩; have HX2 := Lib.hid (Kd.R_mono (ok' := fun k => W4.heap.size ≤ k ∧ k < W5.heap.size) (Kd.R_bound hs5) (fun _ hk => ⟨hk.2.1, hk.2.2.1⟩)); have HB5 := Lib.hid (below_step HB4.out hb5); have HD5 := Lib.hid hb5; clear hs5 hb5; refine Hid.out ?_))
  refine Lib.hid ?_
  have HX15 := Lib.hid (Kd.S_below HX1.out HD5.out)
  have HW5 := Lib.hid (Kd.R_below HW4.out HD5.out)
  have HE5 := Lib.hid (HD4.out.trans (HD5.out.mono (below_size HD4.out)))
  obtain ⟨A1', c1', ev⟩ := Kd.S_slice HX1.out
  subst ev
  obtain ⟨A2', c2', ev⟩ := Kd.R_slice HX2.out
  subst ev
  have HCX1 := Lib.hid (Kd.S_reads' HX15.out).2
  have HCX2 := Lib.hid (Kd.R_reads' HX2.out).2
  clear HW HW4 HX1 HB4
  go_wp2_with (first
    | (go_at_call 28; (with_reducible refine (HIM.out _ _ _ _ _ HCX1.out.2 HCX1.out.1 HCX2.out.2 HCX2.out.1).mono ?_);  rintro e W6 ⟨vg, rfl, hs6, hb6⟩; have HG := Lib.hid (Kd.R_mono (ok' := fun k => W5.heap.size ≤ k ∧ k < W6.heap.size) (Kd.R_bound hs6) (fun _ hk => ⟨hk.2.1, hk.2.2.1⟩)); have HB6 := Lib.hid (below_step HB5.out hb6); have HD6 := Lib.hid hb6; clear hs6 hb6; refine Hid.out ?_))
  refine Lib.hid ?_
  obtain ⟨Ag, cg, ev⟩ := Kd.R_slice HG.out
  subst ev
  have HX16 := Lib.hid (Kd.S_below HX15.out HD6.out)
  have HX26 := Lib.hid (Kd.R_below HX2.out HD6.out)
  have HW6 := Lib.hid (Kd.R_below HW5.out HD6.out)
  have HE6 := Lib.hid (HE5.out.trans (HD6.out.mono (below_size HE5.out)))
  have HCG := Lib.hid (Kd.R_reads' HG.out).2
  have HCW := Lib.hid (Kd.R_reads' HW6.out).2
  have HF6 : Hid (Below W6.heap.size W6 W6) := Lib.hid (Below.refl _ _)
  clear HX15 HX2 HW5 HCX1 HCX2 HB5 HE5
  go_wp2_with (first
    | (go_at_call 24; (with_reducible refine (HER _ _ _ _ _ HCG.out.2 HCG.out.1 HCW.out.2 HCW.out.1).out.mono ?_);  rintro e wz ⟨rfl, ⟨n7, rfl⟩⟩; have HF7 := Lib.hid (pw_below_drewN HF6.out n7))
    | (go_at_call 11; (with_reducible refine (HTS.out _ (HB6.out.trans (HF7.out.mono (below_size HB6.out)))).mono ?_);  rintro e W8 ⟨v8, rfl, hs8, hb8⟩; obtain ⟨A8, c8, ev, hc8, hr8⟩ := Kd.S_reads hs8; subst ev; have HF8 := Lib.hid (below_step HF7.out hb8); have HR8 := Lib.hid hr8; have HC8 := Lib.hid hc8; have HCX1 := Lib.hid (Kd.S_reads' (Kd.S_below HX16.out HF8.out)).2; clear hs8 hb8 hc8 hr8)
    | (go_at_call 14; (with_reducible refine (HES _ _ _ _ _ HCX1.out.2 HCX1.out.1 HR8.out HC8.out).out.mono ?_);  rintro e wz ⟨rfl, ⟨n9, rfl⟩⟩; have HF9 := Lib.hid (pw_below_drewN HF8.out n9))
    | (go_at_call 22; (with_reducible refine (HTW.out _ (HB6.out.trans (HF9.out.mono (below_size HB6.out)))).mono ?_);  rintro e Wa ⟨va, rfl, hsa, hba⟩; obtain ⟨Aa, ca, ev, hca, hra⟩ := Kd.R_reads hsa; subst ev; have HFa := Lib.hid (below_step HF9.out hba); have HRa := Lib.hid hra; have HCa := Lib.hid hca; have HCX2 := Lib.hid (Kd.R_reads' (Kd.R_below HX26.out HFa.out)).2; clear hsa hba hca hra)
    | (go_at_call 24; (with_reducible refine (HEX _ _ _ _ _ HCX2.out.2 HCX2.out.1 HRa.out HCa.out).out.mono ?_);  rintro e wz ⟨rfl, ⟨nb, rfl⟩⟩; have HFb := Lib.hid (pw_below_drewN HFa.out nb); refine Hid.out ?_))
  refine Lib.hid ?_
  obtain ⟨WM, hWM⟩ : ∃ WM, Wa.drewN nb = WM := ⟨_, rfl⟩
  rw [hWM] at HFb ⊢
  clear hWM HF6 HF7 HF8 HF9 HFa HR8 HC8 HRa HCa HCX1 HCX2 HCG HCW HES HEX
  have HX1M := Lib.hid (Kd.S_below HX16.out HFb.out)
  have HX2M := Lib.hid (Kd.R_below HX26.out HFb.out)
  have HWM := Lib.hid (Kd.R_below HW6.out HFb.out)
  have HGM := Lib.hid (Kd.R_below HG.out HFb.out)
  have HEM := Lib.hid (HE6.out.trans (HFb.out.mono (below_size HE6.out)))
  have HZ1 : Hid (W3.heap.size ≤ W4.heap.size ∧ W4.heap.size ≤ W5.heap.size ∧ W5.heap.size ≤ W6.heap.size) := Lib.hid ⟨HD4.out.size, HD5.out.size, HD6.out.size⟩
  clear HX16 HX26 HW6 HG HE6 HFb HB6 HD4 HD5 HD6
  go_wp2_with (first
    | (go_at_call 17; (with_reducible refine (HMS _ _ _ W3 _ HEM.out HX1M.out).out.mono ?_);  rintro e W9 ⟨rfl, _, hb9, hk9⟩; have HE9 := Lib.hid hb9; have HX29 := Lib.hid (Kd.R_kept HX2M.out hk9 (fun k hk hp => by have := HZ1.out; omega)); have HW9 := Lib.hid (Kd.R_kept HWM.out hk9 (fun k hk hp => by have := HZ1.out; omega)); have HG9 := Lib.hid (Kd.R_kept HGM.out hk9 (fun k hk hp => by have := HZ1.out; omega)); clear hb9 hk9)
    | (go_at_call 29; (with_reducible refine (HMX _ _ W3 _ HE9.out (Kd.R_lower HX29.out HZ1.out.1)).out.mono ?_);  rintro e W10 ⟨rfl, _, hb10, hk10⟩; have HE10 := Lib.hid hb10; have HW10 := Lib.hid (Kd.R_kept HW9.out hk10 (fun k hk hp => by have := HZ1.out; omega)); have HG10 := Lib.hid (Kd.R_kept HG9.out hk10 (fun k hk hp => by have := HZ1.out; omega)); clear hb10 hk10; refine Hid.out ?_))
  refine Lib.hid ?_
  have HCG := Lib.hid (Kd.R_reads' HG10.out).2
  have HCW := Lib.hid (Kd.R_reads' HW10.out).2
  clear HX1M HX2M HWM HGM HEM HE9 HX29 HW9 HG9 HMS HMX
  go_wp2_with (first
    | (go_at_call 24; (with_reducible refine (HER _ _ _ _ _ HCG.out.2 HCG.out.1 HCW.out.2 HCW.out.1).out.mono ?_);  rintro e wz ⟨rfl, ⟨n11, rfl⟩⟩)
    | (go_at_call 29; (with_reducible refine (HMR (fun k => W5.heap.size ≤ k ∧ k < W6.heap.size) _ W3 _ ?p1 ?p2).out.mono ?_); (case p1 => exact pw_below_drewN HE10.out n11); (case p2 => exact Kd.R_drewN (Kd.R_lower HG10.out (by have := HZ1.out; omega)) n11); rintro e W11 ⟨rfl, hg11, hb11, hk11⟩; have HE11 := Lib.hid hb11; have HG11 := Lib.hid hg11; have HW11 := Lib.hid (Kd.R_kept (Kd.R_drewN HW10.out n11) hk11 (fun k hk hp => by have := HZ1.out; omega)); clear hg11 hb11 hk11; refine Hid.out ?_))
  refine Lib.hid ?_
  have HCG1 : Hid (Kd.C (Kd.int .u16) W11 Ag r1.length (marks .u16 1 r1.length)) := Lib.hid (by have := (Kd.R_reads' HG11.out).2.2; rw [marks_length] at this; exact this)
  have HBB : Hid (Below w.heap.size w W11) := Lib.hid (HB3.out.trans (HE11.out.mono (below_size HB3.out)))
  have HCC := Lib.hid HCG.out.1
  have HCD := Lib.hid HCW.out.1
  clear HCG HCW HW10 HG10 HE10 HG11
  go_wp2_with (first
    | (go_at_call 30; (with_reducible refine (HHE _ _ _ HCG1.out HCC.out).out.mono ?_);  rintro e wz ⟨rfl, ⟨n12, rfl⟩⟩; have HBC := Lib.hid (pw_below_drewN HBB.out n12))
    | (go_at_call 11; (with_reducible refine (HTS.out _ HBC.out).mono ?_);  rintro e W13 ⟨v13, rfl, hs13, hb13⟩; obtain ⟨Ab, cb, ev, hcb, hrb⟩ := Kd.S_reads hs13; subst ev; have HRb := Lib.hid hrb; have HCb := Lib.hid hcb; have HBD := Lib.hid (below_step HBC.out hb13); have HD13 := Lib.hid hb13; clear hs13 hb13 hcb hrb)
    | (go_at_call 22; (with_reducible refine (HTW.out _ HBD.out).mono ?_);  rintro e W14 ⟨v14, rfl, hs14, hb14⟩; obtain ⟨Ac, cc, ev, hcc, hrc⟩ := Kd.R_reads hs14; subst ev; have HRc := Lib.hid hrc; have HCc := Lib.hid hcc; have HRb2 := Lib.hid (Kd.C_below HRb.out hb14); have HBE := Lib.hid (below_step HBD.out hb14); have HD14 := Lib.hid hb14; clear hs14 hb14 hcc hrc)
    | (go_at_call 28; (with_reducible refine (HIM.out _ _ _ _ _ HRb2.out HCb.out HRc.out HCc.out).mono ?_);  rintro e W15 ⟨vh, rfl, hs15, hb15⟩; have HH := Lib.hid hs15; have HBF := Lib.hid (below_step HBE.out hb15); have HD15 := Lib.hid hb15; clear hs15 hb15; refine Hid.out ?_))
  refine Lib.hid ?_
  obtain ⟨Ah, ch, ev⟩ := Kd.R_slice HH.out
  subst ev
  have HDD : Hid (Below (W11.drewN n12).heap.size (W11.drewN n12) W15) := Lib.hid (below_step (below_step HD13.out HD14.out) HD15.out)
  have HCH := Lib.hid (Kd.R_reads' HH.out).2
  have HCW := Lib.hid (Kd.R_reads' (Kd.R_below (Kd.R_drewN HW11.out n12) HDD.out)).2
  have HCG2 := Lib.hid (Kd.C_below (Kd.C_drewN HCG1.out n12) HDD.out)
  go_wp2_with (first
    | (go_at_call 24; (with_reducible refine (HER _ _ _ _ _ HCH.out.2 HCH.out.1 HCW.out.2 HCW.out.1).out.mono ?_);  rintro e wz ⟨rfl, ⟨n16, rfl⟩⟩; have HCG3 := Lib.hid (Kd.C_drewN HCG2.out n16))
    | (go_at_call 30; (with_reducible refine (HHE _ _ _ HCG3.out HCC.out).out.mono ?_);  rintro e wz ⟨rfl, ⟨n17, rfl⟩⟩; refine Hid.out ?_))
  refine Lib.hid ?_
  go_wp2
  go_ret
  exact ⟨rfl, pw_below_drewN HBF.out _⟩
theorem law_calls (b : Int) (A1 : Option Addr) (c1 : Nat) (l : List (List Int)) (A2 : Option Addr) (c2 : Nat) (x : List Int) (t : Int) (w : World) (hr1 : Kd.C (Kd.slice 38 (Kd.int .u16)) w A1 l.length l) (hc1 : l.length ≤ c1) (hr2 : Kd.C (Kd.int .u16) w A2 x.length x) (hc2 : x.length ≤ c2) (hw1 : ∀ y ∈ l, ∀ n ∈ y, (Lit.int .u16 n).wf = true) (hw2 : ∀ n ∈ x, (Lit.int .u16 n).wf = true) (hm : l.length ≤ maxLen) (hmx : ∀ y ∈ l, y.length ≤ maxLen) : Calls Try.prog 8 #[.int .i64 b, .slice A1 l.length c1, .slice A2 x.length c2, .int .i64 t] w fun e w' => e = .returned (.bool true) ∧ Below w.heap.size w w' := by
  by_cases h : x.length ≤ 1048576
  · obtain ⟨v, hv, hd⟩ := sz_ev l hm hmx
    by_cases hn : v < 0
    · exact law_sized b A1 c1 l A2 c2 x t w hr1 hc1 hr2 hc2 h v hv hn
    · obtain ⟨hl, hx⟩ := hd.resolve_left hn
      exact law_main b A1 c1 l A2 c2 x t w hr1 hc1 hr2 hc2 h v hv hn hl hx hw1 hw2
  · exact law_long b A1 c1 l A2 c2 x t w hr1 hc1 hr2 hc2 (by omega)

end Go.Proofs.Ytabdpdnofljkcaa.Given
