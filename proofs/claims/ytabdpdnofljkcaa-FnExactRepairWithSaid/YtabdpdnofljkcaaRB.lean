/- Words that lie far are deleted from a list: walked. -/
import Derived.Test.YtabdpdnofljkcaaProg
import Derived.Below
import Derived.Deep.Draws
import Derived.Deep.AppendLies
import Derived.Maps.AppendAt
import Derived.OwnWalk
import Derived.Laws.BytesArg
import Derived.Laws.MakeOwn
import Derived.Laws.OwnMore
import Derived.Deep.OwnRows
import Derived.Tactics
import Derived.Lib.ConvBytes
import Derived.Laws.Slices
import Derived.WalkKit
import Derived.KernelRfl
import Derived.RowKit3
import Derived.Deep.LoopGhost
import Derived.Deep.QuietTactic
import Derived.BigQuiet
import Derived.WideLaws
import Derived.Deep.DeepCutAuto
import Derived.Deep.CutBlock
import Derived.Deep.RegionHeld3
import Derived.Laws.Rows
import Derived.Lib.AppendStr
import Derived.ArgAppend
import Derived.Laws.IdiomCopy
import Derived.OrdersHeld
import Derived.Laws.BitsLemmas
import Derived.RowKit
import Derived.Lib.Hide
import Derived.WalkSpells
import Derived.Test.YtabdpdnofljkcaaWWords
import Derived.Test.YtabdpdnofljkcaaWLast
import Derived.Test.YtabdpdnofljkcaaWTab
import Derived.Test.YtabdpdnofljkcaaWFour
import Derived.Test.YtabdpdnofljkcaaWQPut
import Derived.Test.YtabdpdnofljkcaaWApart
import Derived.Test.YtabdpdnofljkcaaWArr
import Derived.Test.YtabdpdnofljkcaaWZeros
import Derived.Test.YtabdpdnofljkcaaWFoot
import Derived.Test.YtabdpdnofljkcaaWKept
import Derived.Test.YtabdpdnofljkcaaWShare
import Derived.Test.YtabdpdnofljkcaaWN
import Derived.Test.YtabdpdnofljkcaaWFootNe
import Derived.Test.YtabdpdnofljkcaaWAt
import Derived.Test.YtabdpdnofljkcaaWEqStruct
import Derived.Test.YtabdpdnofljkcaaWRepsOne
import Derived.Test.YtabdpdnofljkcaaWInv
import Derived.Test.YtabdpdnofljkcaaWInvWords
import Derived.Test.YtabdpdnofljkcaaWGuard
import Derived.Test.YtabdpdnofljkcaaWNEv
import Derived.Test.YtabdpdnofljkcaaWMore
import Derived.Test.YtabdpdnofljkcaaN1
import Derived.Test.YtabdpdnofljkcaaRA
import Derived.Lib.SmallJoins
import Derived.Lib.SliceRun
namespace Go.Proofs.Ytabdpdnofljkcaa.Given
open Go.RowKit Go.Proofs.YtabdpdnofljkcaaW.PrintWords Go.Proofs.YtabdpdnofljkcaaW.PrintLast Go.Proofs.YtabdpdnofljkcaaW.PrintMore Go.Proofs.Ytabdpdnofljkcaa.NimF Go.Proofs.Ytabdpdnofljkcaa.NimGo
set_option linter.unusedVariables false
set_option linter.unusedSimpArgs false
open Go.Proofs.Ytabdpdnofljkcaa.RAPT
open Go.Proofs.Ytabdpdnofljkcaa.NimF
open Go.Proofs.Ytabdpdnofljkcaa.NimGo
theorem any_take_succ {f : List Int → Bool} {l : List (List Int)} {i : Nat} (hi : i < l.length) : (l.take (i + 1)).any f = ((l.take i).any f || f (l.getD i [])) := by
  rw [List.take_add_one, List.any_append, List.getElem?_eq_getElem hi]
  simp [List.getD, hi]

theorem cell_below {W W1 : World} {g : Nat} {v : Value} (h : W.cell? ⟨g, 0, none⟩ = some v) (hb : Below W.heap.size W W1) : W1.cell? ⟨g, 0, none⟩ = some v := by
  have hlt : g < W.heap.size := by
    rcases Nat.lt_or_ge g W.heap.size with h' | h'
    · exact h'
    · simp [World.cell?, Array.getElem?_eq_none h'] at h
  simpa [World.cell?, hb.block g hlt] using h
/-- the closure's two captured cells -/
def Cap (W : World) (Bw Ba : Nat) (A1 : Option Addr) (c1 : Nat) (x : List Int) (a : Int) : Prop := W.cell? ⟨Bw, 0, none⟩ = some (.slice A1 x.length c1) ∧ W.cell? ⟨Ba, 0, none⟩ = some (.int .i64 a)
theorem cap_below {W W1 : World} {Bw Ba : Nat} {A1 : Option Addr} {c1 : Nat} {x : List Int} {a : Int} (h : Cap W Bw Ba A1 c1 x a) (hb : Below W.heap.size W W1) : Cap W1 Bw Ba A1 c1 x a :=
  ⟨cell_below h.1 hb, cell_below h.2 hb⟩
def far (t : Int) (w x : List Int) : Bool := decide (t < ap x w)
theorem kp_far (t : Int) (w x : List Int) : kp t w x = !far t w x := rfl
set_option maxHeartbeats 1000000 in
theorem far_calls (a : Int) (A0 : Option Addr) (c0 : Nat) (l0 : List Int) (A1 : Option Addr) (c1 : Nat) (x : List Int) (Bw Ba : Nat) (w : World) (hcap : Cap w Bw Ba A1 c1 x a)
    (hr0 : Kd.C (Kd.int .u16) w A0 l0.length l0) (hc0 : l0.length ≤ c0) (hr1 : Kd.C (Kd.int .u16) w A1 x.length x) (hc1 : x.length ≤ c1) (hl : l0.length = x.length) (h7 : l0.length ≤ 1048576) :
    Calls Try.prog 57 #[.slice A0 l0.length c0, .pointer (some ⟨Bw, 0, none⟩), .pointer (some ⟨Ba, 0, none⟩)] w fun e w' => e = .returned (.bool (far a x l0)) ∧ Below w.heap.size w w' := by
  obtain ⟨K, hK⟩ := iap l0 x hl h7
  have HC := Lib.hid (fun (W : World) (hW : Below w.heap.size w W) => impl_Word_apart.calls K A0 c0 l0 A1 c1 x _ W (Kd.C_below hr0 hW) hc0 (Kd.C_below hr1 hW) hc1 (hK K (Nat.le_refl _)))
  have HCAP := Lib.hid hcap
  have HN : Hid (far a x l0 = decide (a < ap l0 x)) := Lib.hid rfl
  obtain ⟨z, hz⟩ : ∃ z, ap l0 x = z := ⟨_, rfl⟩
  rw [hz] at HC HN
  clear hcap hr0 hc0 hr1 hc1 hl h7 hK hz K
  go_enter Try.func57, Try.ntmps57
  go_wp2
  refine start_ (n := 6) (S := fun W => Cap W Bw Ba A1 c1 x a) (ds := []) #[false, false, false, false, false, false] (by kernel_rfl) rfl rfl HCAP.out (fun hHeld => ?_)
  refine pure_ (i := 0) (N := some 5) (v := ?_) (a' := ?_) #[true, false, false, false, false, false] rfl rfl (by kernel_rfl) (fun _ _ _ h => h) (Or.inl ⟨by rfl, ?_⟩) ?_ ?_
  rotate_left
  · intro w'
    go_simp
    with_reducible rfl
  rotate_left
  · simp only [Act.put, List.setIfInBounds_toArray, List.set_cons_zero, List.set_cons_succ, i64_w, i32_w]
    rfl
  refine take_ (i := 1) (N := some 6) (v := ?_) (a' := ?_) #[true, true, false, false, false, false] rfl rfl (by kernel_rfl) (fun _ _ _ h => h) (Or.inl ⟨by rfl, ?_⟩) hHeld ?_ ?_
  rotate_left
  · rintro w' ⟨s0, s1⟩
    go_simp
    with_reducible rfl
  rotate_left
  · simp only [Act.put, List.setIfInBounds_toArray, List.set_cons_zero, List.set_cons_succ, i64_w, i32_w]
    rfl
  refine take_ (i := 3) (N := some 8) (v := ?_) (a' := ?_) #[true, true, false, true, false, false] rfl rfl (by kernel_rfl) (fun _ _ _ h => h) (Or.inl ⟨by rfl, ?_⟩) hHeld ?_ ?_
  rotate_left
  · rintro w' ⟨s0, s1⟩
    go_simp
    with_reducible rfl
  rotate_left
  · simp only [Act.put, List.setIfInBounds_toArray, List.set_cons_zero, List.set_cons_succ, i64_w, i32_w]
    rfl
  refine one_ (i := 2) (N := some 7) #[true, true, true, true, false, false] rfl rfl (by kernel_rfl) (by decide) (fun K hK => ?_)
  refine call_ 47 #[.slice A0 l0.length c0, .slice A1 x.length c1] (by rfl) rfl ?hrun ?_
  case hrun => (go_simp; done)
  with_reducible refine (HC.out w.drew (below_drew (Below.refl _ _))).mono ?_
  rintro e W1 ⟨rfl, hb⟩
  refine ⟨_, rfl, ?_⟩
  refine hK.out _ _ (cap_below HCAP.out ((below_drew (Below.refl _ _)).trans hb)) (fun hHeld2 => ?_)
  clear hK K
  have HB1 := Lib.hid hb
  clear hb
  refine norm_ (a' := ?_) ?_ ?_
  rotate_left
  · show Act.put _ (some 7) _ = _
    simp only [Act.put, List.setIfInBounds_toArray, List.set_cons_zero, List.set_cons_succ, i64_w, i32_w]
    rfl
  refine pure_ (i := 4) (N := some 9) (v := ?_) (a' := ?_) #[true, true, true, true, true, false] rfl rfl (by kernel_rfl) (fun _ _ _ h => h) (Or.inl ⟨by rfl, ?_⟩) ?_ ?_
  rotate_left
  · intro w'
    go_simp
    with_reducible rfl
  rotate_left
  · simp only [Act.put, List.setIfInBounds_toArray, List.set_cons_zero, List.set_cons_succ, i64_w, i32_w]
    rfl
  refine pure_ (i := 5) (N := some 4) (v := ?_) (a' := ?_) #[true, true, true, true, true, true] rfl rfl (by kernel_rfl) (fun _ _ _ h => h) (Or.inl ⟨by rfl, ?_⟩) ?_ ?_
  rotate_left
  · intro w'
    go_simp
    with_reducible rfl
  rotate_left
  · simp only [Act.put, List.setIfInBounds_toArray, List.set_cons_zero, List.set_cons_succ, i64_w, i32_w]
    rfl
  refine done_ (by kernel_rfl) ?_
  go_wp2
  go_ret
  exact ⟨by rw [HN.out]; rfl, below_step (below_drew (Below.refl _ _)) HB1.out⟩
/-- what an element's value reads in an old world -/
def Rd (wb : World) (v : Value) (x : List Int) : Prop := ∃ A c, v = .slice A x.length c ∧ x.length ≤ c ∧ Kd.C (Kd.int .u16) wb A x.length x
def Bk (W : World) (g : Nat) (es : List Value) : Prop := W.heap[g]? = some (.cells es.toArray 42 (0, 0))
def RdL (wb : World) (es : List Value) (l : List (List Int)) : Prop := ∀ j, j < l.length → ∃ v, es[j]? = some v ∧ Rd wb v (l.getD j [])
theorem bk_below {W W1 : World} {g : Nat} {es : List Value} (h : Bk W g es) (hb : Below W.heap.size W W1) : Bk W1 g es := by
  have hlt : g < W.heap.size := by
    rcases Nat.lt_or_ge g W.heap.size with h' | h'
    · exact h'
    · unfold Bk at h; rw [Array.getElem?_eq_none h'] at h; cases h
  unfold Bk
  rw [hb.block g hlt]
  exact h
theorem bk_cell {W : World} {g : Nat} {es : List Value} (h : Bk W g es) {j : Nat} {v : Value} (hv : es[j]? = some v) : W.cell? ⟨g, j, none⟩ = some v := by
  rw [Go.Joins.cell_of_block h]
  simpa using hv
theorem bk_free {W : World} {g : Nat} {es : List Value} (h : Bk W g es) (j : Nat) : W.frozen? ⟨g, j, none⟩ = false := Go.Joins.unfrozen_of_block h j
theorem bk_set {W : World} {g : Nat} {es : List Value} (h : Bk W g es) (j : Nat) (v : Value) : Bk (W.setCell ⟨g, j, none⟩ v) g (es.set j v) := by
  unfold Bk
  rw [Go.Joins.block_setCell h]
  simp
theorem below_setCells' {w W : World} {B g : Nat} (h : Below B w W) (hg : B ≤ g) (o : Nat) (vs : List Value) : Below B w (W.setCells g o vs) := by
  have hs := setCells_same g vs o W
  exact ⟨by rw [hs.1]; exact h.os, by rw [hs.2.1]; exact h.tape, by rw [hs.2.2.1]; exact h.output, by rw [hs.2.2.2]; exact h.size, fun k hk => by rw [setCells_far vs o k (by omega)]; exact h.block k hk⟩
abbrev cl (Bw Ba : Nat) : Value := .func (.func 57) #[] #[.pointer (some ⟨Bw, 0, none⟩), .pointer (some ⟨Ba, 0, none⟩)]
set_option maxHeartbeats 1000000 in
theorem indexD_calls (fr : List Int → Bool) (Bw Ba : Nat) (wb : World) (g cap : Nat) (es : List Value) (l : List (List Int)) (w : World)
    (hcl : ∀ (W : World) (A' : Option Addr) (c' : Nat) (x : List Int), Below wb.heap.size wb W → x ∈ l → x.length ≤ c' → Kd.C (Kd.int .u16) wb A' x.length x → Calls Try.prog 57 #[.slice A' x.length c', .pointer (some ⟨Bw, 0, none⟩), .pointer (some ⟨Ba, 0, none⟩)] W fun e w' => e = .returned (.bool (fr x)) ∧ Below W.heap.size W w')
    (hb : Below wb.heap.size wb w) (hB : Bk w g es) (hr : RdL wb es l) (h8 : l.length ≤ 1048576) :
    Calls Try.prog 61 #[.slice (some ⟨g, 0, none⟩) l.length cap, cl Bw Ba] w fun e w' => ∃ r : Int, e = .returned (.int .i64 r) ∧ ((r = -1 ∧ l.any fr = false) ∨ ∃ k0 : Nat, r = (k0 : Int) ∧ k0 < l.length ∧ fr (l.getD k0 []) = true ∧ (l.take k0).any fr = false) ∧ Below w.heap.size w w' := by
  have HCL := Lib.hid hcl
  have HWB := Lib.hid hb
  have HBK := Lib.hid hB
  have HR := Lib.hid hr
  have H8 := Lib.hid h8
  have hmax : l.length ≤ 9223372036854775807 := by omega
  clear hcl hb hB hr h8
  go_enter Try.func61, Try.ntmps61
  go_wp2
  go_loopg [5, 8] l.length (fun gg v5 v8 wr => ∃ n : Nat, Hid (n ≤ l.length) ∧ Hid (l.length - n ≤ gg) ∧ v8 = .int .i64 (n : Int) ∧ Hid ((l.take n).any fr = false) ∧ Hid (Below w.heap.size w wr))
  case atStart => exact ⟨0, Lib.hid (Nat.zero_le _), Lib.hid (Nat.sub_le _ _), rfl, Lib.hid (by simp), Lib.hid (Below.refl _ _)⟩
  case round =>
    obtain ⟨n, hn, hg, rfl, ht, HB⟩ := hrel
    by_cases hlt : n < l.length
    · obtain ⟨v, hv, A', c', rfl, hcx, hi⟩ := HR.out n hlt
      have hx := bk_cell (bk_below HBK.out HB.out) hv
      have hb0 : decide ((n : Int) < (l.length : Int)) = true := decide_eq_true (by omega)
      have hb1 : (n : Int) < (l.length : Int) := by omega
      have hi0 : (0 : Int) ≤ (n : Int) := by omega
      have hnb : n < 9223372036854775807 := by omega
      have TS : Hid ((l.take (n + 1)).any fr = ((l.take n).any fr || fr (l.getD n []))) := Lib.hid (any_take_succ hlt)
      have hm : l.getD n [] ∈ l := getD_mem hlt
      have HK := Lib.hid (HCL.out wr A' c' (l.getD n []) (HWB.out.trans (HB.out.mono (below_size HWB.out))) hm hcx hi)
      have TY : Hid (∀ b, fr (l.getD n []) = b → fr (l.getD n []) = b) := Lib.hid (fun _ h => h)
      obtain ⟨y, hy⟩ : ∃ y, l.getD n [] = y := ⟨_, rfl⟩
      have HY := Lib.hid hy
      rw [hy] at hx TS HK
      have HN := Lib.hid hlt
      clear hm hi hcx hlt hy hv TY
      cases hv : fr y with
      | true =>
        rw [hv] at HK TS
        have HV := Lib.hid hv
        clear hv
        go_wp2_with (go_at_call 57; (with_reducible refine HK.out.mono ?_); rintro e w1 ⟨rfl, hb⟩)
        go_ret
        exact ⟨(n : Int), rfl, .inr ⟨n, rfl, HN.out, by rw [HY.out]; exact HV.out, ht.out⟩, below_step HB.out hb⟩
      | false =>
        rw [hv] at HK TS
        clear hv
        go_wp2_with (go_at_call 57; (with_reducible refine HK.out.mono ?_); rintro e w1 ⟨rfl, hb⟩)
        go_roundg (l.length - (n + 1))
        case measure => have := hg.out; have := HN.out; omega
        case rel => exact ⟨n + 1, Lib.hid HN.out, Lib.hid (Nat.le_refl _), by first | rfl | go_num, Lib.hid (by rw [TS.out, ht.out]; rfl), Lib.hid (below_step HB.out hb)⟩
    · have hb0 : decide ((n : Int) < (l.length : Int)) = false := decide_eq_false (by omega)
      have hb1 : (l.length : Int) ≤ (n : Int) := by omega
      have en : n = l.length := by have := hn.out; omega
      have ht2 : Hid (l.any fr = false) := Lib.hid (by have := ht.out; rw [en, List.take_length] at this; exact this)
      clear ht hn hlt en
      go_wp2
      go_ret
      exact ⟨-1, rfl, .inl ⟨rfl, ht2.out⟩, HB.out⟩
set_option maxHeartbeats 1000000 in
theorem index_nil (Bw Ba : Nat) (A : Option Addr) (cap : Nat) (w : World) : Calls Try.prog 61 #[.slice A 0 cap, cl Bw Ba] w fun e w' => e = .returned (.int .i64 (-1)) ∧ w' = w := by
  go_enter Try.func61, Try.ntmps61
  go_wp2
  go_loopg [5, 8] 1 (fun gg v5 v8 wr => v8 = .int .i64 0 ∧ wr = w)
  case atStart => exact ⟨rfl, rfl⟩
  case round =>
    obtain ⟨rfl, rfl⟩ := hrel
    go_wp2
    go_ret
    exact ⟨rfl, rfl⟩
set_option maxHeartbeats 1000000 in
theorem delete_nil (Bw Ba : Nat) (A : Option Addr) (cap : Nat) (w : World) : Calls Try.prog 55 #[.slice A 0 cap, cl Bw Ba] w fun e w' => e = .returned (.slice A 0 cap) ∧ w' = w := by
  have HI := fun w => Lib.hid (index_nil Bw Ba A cap w)
  go_enter Try.func55, Try.ntmps55
  go_wp2_with (go_at_call 61; (with_reducible refine (HI _).out.mono ?_); rintro e w' ⟨rfl, hw_⟩; have hw2_ := hw_.symm; clear hw_; subst hw2_)
  go_ret
  exact ⟨rfl, rfl⟩

end Go.Proofs.Ytabdpdnofljkcaa.Given
