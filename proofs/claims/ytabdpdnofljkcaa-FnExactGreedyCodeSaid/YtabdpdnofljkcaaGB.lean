/- A word too near to one of a list: walked. -/
import Derived.Test.YtabdpdnofljkcaaProg
import Derived.Below
import Derived.Deep.Draws
import Derived.Deep.AppendLies
import Derived.Maps.AppendAt
import Derived.OwnWalk
import Derived.Laws.BytesArg
import Derived.Laws.MakeOwn
import Derived.Laws.OwnMore
import Derived.Deep.OwnRows
import Derived.Tactics
import Derived.Lib.ConvBytes
import Derived.Laws.Slices
import Derived.WalkKit
import Derived.KernelRfl
import Derived.RowKit3
import Derived.Deep.LoopGhost
import Derived.Deep.QuietTactic
import Derived.BigQuiet
import Derived.WideLaws
import Derived.Deep.DeepCutAuto
import Derived.Deep.CutBlock
import Derived.Deep.RegionHeld3
import Derived.Laws.Rows
import Derived.Lib.AppendStr
import Derived.ArgAppend
import Derived.Laws.IdiomCopy
import Derived.OrdersHeld
import Derived.Laws.BitsLemmas
import Derived.RowKit
import Derived.Lib.Hide
import Derived.WalkSpells
import Derived.Test.YtabdpdnofljkcaaWWords
import Derived.Test.YtabdpdnofljkcaaWLast
import Derived.Test.YtabdpdnofljkcaaWTab
import Derived.Test.YtabdpdnofljkcaaWFour
import Derived.Test.YtabdpdnofljkcaaWQPut
import Derived.Test.YtabdpdnofljkcaaWApart
import Derived.Test.YtabdpdnofljkcaaWArr
import Derived.Test.YtabdpdnofljkcaaWZeros
import Derived.Test.YtabdpdnofljkcaaWFoot
import Derived.Test.YtabdpdnofljkcaaWKept
import Derived.Test.YtabdpdnofljkcaaWShare
import Derived.Test.YtabdpdnofljkcaaWN
import Derived.Test.YtabdpdnofljkcaaWFootNe
import Derived.Test.YtabdpdnofljkcaaWAt
import Derived.Test.YtabdpdnofljkcaaWEqStruct
import Derived.Test.YtabdpdnofljkcaaWRepsOne
import Derived.Test.YtabdpdnofljkcaaWInv
import Derived.Test.YtabdpdnofljkcaaWInvWords
import Derived.Test.YtabdpdnofljkcaaWGuard
import Derived.Test.YtabdpdnofljkcaaWNEv
import Derived.Test.YtabdpdnofljkcaaWMore
import Derived.Test.YtabdpdnofljkcaaN1
import Derived.Test.YtabdpdnofljkcaaGA
namespace Go.Proofs.Ytabdpdnofljkcaa.Given
open Go.RowKit Go.Proofs.YtabdpdnofljkcaaW.PrintWords Go.Proofs.YtabdpdnofljkcaaW.PrintLast Go.Proofs.YtabdpdnofljkcaaW.PrintMore Go.Proofs.Ytabdpdnofljkcaa.NimF Go.Proofs.Ytabdpdnofljkcaa.NimGo
set_option linter.unusedVariables false
set_option linter.unusedSimpArgs false
open Go.Proofs.Ytabdpdnofljkcaa.PFnExactGreedyCode Go.Proofs.Ytabdpdnofljkcaa.RAPT
theorem at_row {w : World} {A : Option Addr} {l : List (List Int)} (h : Kd.C (Kd.slice 64 (Kd.int .u16)) w A l.length l) {j : Nat} (hj : j < l.length) : ∃ ad, A = some ad ∧ ∃ A' c', w.cell? (ad.add j) = some (.slice A' (l.getD j []).length c') ∧ (l.getD j []).length ≤ c' ∧ Kd.C (Kd.int .u16) w A' (l.getD j []).length (l.getD j []) := by
  obtain ⟨ad, e, hc⟩ := h.2.2 (by omega)
  obtain ⟨c, hs, ⟨A', c', hcs, hl, hi⟩, hcell⟩ := hc j _ (List.getElem?_eq_getElem hj)
  have eg : l.getD j [] = l[j] := by simp [List.getD, hj]
  subst hcs
  refine ⟨ad, e, A', c', ?_, by rw [eg]; exact hl, by rw [eg]; exact hi⟩
  have := hcell 0 _ rfl
  rw [eg]
  have z : j * (Kd.slice 64 (Kd.int .u16)).sz + 0 = j := by show j * 1 + 0 = j; omega
  rw [z] at this
  exact this
theorem cell_below {W W1 : World} {g : Nat} {v : Value} (h : W.cell? ⟨g, 0, none⟩ = some v) (hb : Below W.heap.size W W1) : W1.cell? ⟨g, 0, none⟩ = some v := by
  have hlt : g < W.heap.size := by
    rcases Nat.lt_or_ge g W.heap.size with h' | h'
    · exact h'
    · simp [World.cell?, Array.getElem?_eq_none h'] at h
  simpa [World.cell?, hb.block g hlt] using h
/-- the closure's two captured cells -/
def Cap (W : World) (Bw Ba : Nat) (A1 : Option Addr) (c1 : Nat) (x : List Int) (a : Int) : Prop := W.cell? ⟨Bw, 0, none⟩ = some (.slice A1 x.length c1) ∧ W.cell? ⟨Ba, 0, none⟩ = some (.int .i64 a)
theorem cap_below {W W1 : World} {Bw Ba : Nat} {A1 : Option Addr} {c1 : Nat} {x : List Int} {a : Int} (h : Cap W Bw Ba A1 c1 x a) (hb : Below W.heap.size W W1) : Cap W1 Bw Ba A1 c1 x a :=
  ⟨cell_below h.1 hb, cell_below h.2 hb⟩
set_option maxHeartbeats 1000000 in
theorem clash_calls (a : Int) (A0 : Option Addr) (c0 : Nat) (l0 : List Int) (A1 : Option Addr) (c1 : Nat) (x : List Int) (Bw Ba : Nat) (w : World) (hcap : Cap w Bw Ba A1 c1 x a)
    (hr0 : Kd.C (Kd.int .u16) w A0 l0.length l0) (hc0 : l0.length ≤ c0) (hr1 : Kd.C (Kd.int .u16) w A1 x.length x) (hc1 : x.length ≤ c1) (hl : x.length = l0.length) (h7 : x.length ≤ 1048576) :
    Calls Try.prog 46 #[.slice A0 l0.length c0, .pointer (some ⟨Bw, 0, none⟩), .pointer (some ⟨Ba, 0, none⟩)] w fun e w' => e = .returned (.bool (near a x l0)) ∧ Below w.heap.size w w' := by
  obtain ⟨K, hK⟩ := iap x l0 hl h7
  have HC := Lib.hid (fun (W : World) (hW : Below w.heap.size w W) => impl_Word_apart.calls K A1 c1 x A0 c0 l0 _ W (Kd.C_below hr1 hW) hc1 (Kd.C_below hr0 hW) hc0 (hK K (Nat.le_refl _)))
  have HCAP := Lib.hid hcap
  have HN : Hid (near a x l0 = decide (ap x l0 < a)) := Lib.hid rfl
  obtain ⟨z, hz⟩ : ∃ z, ap x l0 = z := ⟨_, rfl⟩
  rw [hz] at HC HN
  clear hcap hr0 hc0 hr1 hc1 hl h7 hK hz K
  go_enter Try.func46, Try.ntmps46
  go_wp2
  refine start_ (n := 6) (S := fun W => Cap W Bw Ba A1 c1 x a) (ds := []) #[false, false, false, false, false, false] (by kernel_rfl) rfl rfl HCAP.out (fun hHeld => ?_)
  refine take_ (i := 0) (N := some 5) (v := ?_) (a' := ?_) #[true, false, false, false, false, false] rfl rfl (by kernel_rfl) (fun _ _ _ h => h) (Or.inl ⟨by rfl, ?_⟩) hHeld ?_ ?_
  rotate_left
  · rintro w' ⟨s0, s1⟩
    go_simp
    with_reducible rfl
  rotate_left
  · simp only [Act.put, List.setIfInBounds_toArray, List.set_cons_zero, List.set_cons_succ, i64_w, i32_w]
    rfl
  refine pure_ (i := 1) (N := some 6) (v := ?_) (a' := ?_) #[true, true, false, false, false, false] rfl rfl (by kernel_rfl) (fun _ _ _ h => h) (Or.inl ⟨by rfl, ?_⟩) ?_ ?_
  rotate_left
  · intro w'
    go_simp
    with_reducible rfl
  rotate_left
  · simp only [Act.put, List.setIfInBounds_toArray, List.set_cons_zero, List.set_cons_succ, i64_w, i32_w]
    rfl
  refine take_ (i := 3) (N := some 8) (v := ?_) (a' := ?_) #[true, true, false, true, false, false] rfl rfl (by kernel_rfl) (fun _ _ _ h => h) (Or.inl ⟨by rfl, ?_⟩) hHeld ?_ ?_
  rotate_left
  · rintro w' ⟨s0, s1⟩
    go_simp
    with_reducible rfl
  rotate_left
  · simp only [Act.put, List.setIfInBounds_toArray, List.set_cons_zero, List.set_cons_succ, i64_w, i32_w]
    rfl
  refine one_ (i := 2) (N := some 7) #[true, true, true, true, false, false] rfl rfl (by kernel_rfl) (by decide) (fun K hK => ?_)
  refine call_ 47 #[.slice A1 x.length c1, .slice A0 l0.length c0] (by rfl) rfl ?hrun ?_
  case hrun => (go_simp; done)
  with_reducible refine (HC.out w.drew (below_drew (Below.refl _ _))).mono ?_
  rintro e W1 ⟨rfl, hb⟩
  refine ⟨_, rfl, ?_⟩
  refine hK.out _ _ (cap_below HCAP.out ((below_drew (Below.refl _ _)).trans hb)) (fun hHeld2 => ?_)
  clear hK K
  have HB1 := Lib.hid hb
  clear hb
  refine norm_ (a' := ?_) ?_ ?_
  rotate_left
  · show Act.put _ (some 7) _ = _
    simp only [Act.put, List.setIfInBounds_toArray, List.set_cons_zero, List.set_cons_succ, i64_w, i32_w]
    rfl
  refine pure_ (i := 4) (N := some 9) (v := ?_) (a' := ?_) #[true, true, true, true, true, false] rfl rfl (by kernel_rfl) (fun _ _ _ h => h) (Or.inl ⟨by rfl, ?_⟩) ?_ ?_
  rotate_left
  · intro w'
    go_simp
    with_reducible rfl
  rotate_left
  · simp only [Act.put, List.setIfInBounds_toArray, List.set_cons_zero, List.set_cons_succ, i64_w, i32_w]
    rfl
  refine pure_ (i := 5) (N := some 4) (v := ?_) (a' := ?_) #[true, true, true, true, true, true] rfl rfl (by kernel_rfl) (fun _ _ _ h => h) (Or.inl ⟨by rfl, ?_⟩) ?_ ?_
  rotate_left
  · intro w'
    go_simp
    with_reducible rfl
  rotate_left
  · simp only [Act.put, List.setIfInBounds_toArray, List.set_cons_zero, List.set_cons_succ, i64_w, i32_w]
    rfl
  refine done_ (by kernel_rfl) ?_
  go_wp2
  go_ret
  exact ⟨by rw [HN.out]; rfl, below_step (below_drew (Below.refl _ _)) HB1.out⟩
set_option maxHeartbeats 1000000 in
theorem indexW_calls (a : Int) (A0 : Option Addr) (c0 : Nat) (l0 : List (List Int)) (A1 : Option Addr) (c1 : Nat) (x : List Int) (Bw Ba : Nat) (w : World) (hcap : Cap w Bw Ba A1 c1 x a)
    (hr0 : Kd.C (Kd.slice 64 (Kd.int .u16)) w A0 l0.length l0) (hr1 : Kd.C (Kd.int .u16) w A1 x.length x) (hc1 : x.length ≤ c1) (hl : ∀ y ∈ l0, x.length = y.length) (h7 : x.length ≤ 1048576) (h8 : l0.length ≤ 1048576) :
    Calls Try.prog 61 #[.slice A0 l0.length c0, .func (.func 46) #[] #[.pointer (some ⟨Bw, 0, none⟩), .pointer (some ⟨Ba, 0, none⟩)]] w fun e w' => ∃ r : Int, e = .returned (.int .i64 r) ∧ decide (0 ≤ r) = l0.any (near a x) ∧ Below w.heap.size w w' := by
  have HR := Lib.hid hr0
  have HR1 := Lib.hid hr1
  have HC := Lib.hid hcap
  have HL := Lib.hid hl
  have H7 := Lib.hid h7
  have H8 := Lib.hid h8
  have HC1 := Lib.hid hc1
  have hmax : l0.length ≤ 9223372036854775807 := by omega
  clear hr0 hcap hr1 hc1 hl h7 h8
  go_enter Try.func61, Try.ntmps61
  go_wp2
  go_loopg [5, 8] l0.length (fun gg v5 v8 wr => ∃ n : Nat, Hid (n ≤ l0.length) ∧ Hid (l0.length - n ≤ gg) ∧ v8 = .int .i64 (n : Int) ∧ Hid ((l0.take n).any (near a x) = false) ∧ Hid (Below w.heap.size w wr))
  case atStart => exact ⟨0, Lib.hid (Nat.zero_le _), Lib.hid (Nat.sub_le _ _), rfl, Lib.hid (by simp), Lib.hid (Below.refl _ _)⟩
  case round =>
    obtain ⟨n, hn, hg, rfl, ht, HB⟩ := hrel
    by_cases hlt : n < l0.length
    · obtain ⟨ad, e, A', c', hx, hcx, hi⟩ := at_row (Kd.C_below HR.out HB.out) hlt
      subst e
      have hb0 : decide ((n : Int) < (l0.length : Int)) = true := decide_eq_true (by omega)
      have hb1 : (n : Int) < (l0.length : Int) := by omega
      have hi0 : (0 : Int) ≤ (n : Int) := by omega
      have hnb : n < 9223372036854775807 := by omega
      have TS : Hid ((l0.take (n + 1)).any (near a x) = ((l0.take n).any (near a x) || near a x (l0.getD n []))) := Lib.hid (any_take_succ hlt)
      have hm : l0.getD n [] ∈ l0 := by rw [show l0.getD n [] = l0[n] by simp [List.getD, hlt]]; exact List.getElem_mem hlt
      have TW : Hid (near a x (l0.getD n []) = true → l0.any (near a x) = true) := Lib.hid (fun h => List.any_eq_true.2 ⟨_, hm, h⟩)
      have HK := Lib.hid (clash_calls a A' c' (l0.getD n []) A1 c1 x Bw Ba wr (cap_below HC.out HB.out) hi hcx (Kd.C_below HR1.out HB.out) HC1.out (HL.out _ hm) H7.out)
      generalize l0.getD n [] = y at hx TS TW HK
      have HN := Lib.hid hlt
      clear hm hi hcx hlt
      cases hv : near a x y with
      | true =>
        rw [hv] at HK TS TW
        go_wp2_with (go_at_call 46; (with_reducible refine HK.out.mono ?_); rintro e w1 ⟨rfl, hb⟩)
        go_ret
        refine ⟨(n : Int), rfl, ?_, below_step HB.out hb⟩
        rw [TW.out trivial]; exact decide_eq_true hi0
      | false =>
        rw [hv] at HK TS TW
        go_wp2_with (go_at_call 46; (with_reducible refine HK.out.mono ?_); rintro e w1 ⟨rfl, hb⟩)
        go_roundg (l0.length - (n + 1))
        case measure => have := hg.out; have := HN.out; omega
        case rel => exact ⟨n + 1, Lib.hid HN.out, Lib.hid (Nat.le_refl _), by first | rfl | go_num, Lib.hid (by rw [TS.out, ht.out]; rfl), Lib.hid (below_step HB.out hb)⟩
    · have hb0 : decide ((n : Int) < (l0.length : Int)) = false := decide_eq_false (by omega)
      have hb1 : (l0.length : Int) ≤ (n : Int) := by omega
      have en : n = l0.length := by have := hn.out; omega
      have ht2 : Hid (l0.any (near a x) = false) := Lib.hid (by have := ht.out; rw [en, List.take_length] at this; exact this)
      clear ht hn hlt en
      go_wp2
      go_ret
      refine ⟨-1, rfl, ?_, HB.out⟩
      rw [ht2.out]; rfl
set_option maxHeartbeats 1000000 in
theorem containsW_calls (a : Int) (A0 : Option Addr) (c0 : Nat) (l0 : List (List Int)) (A1 : Option Addr) (c1 : Nat) (x : List Int) (Bw Ba : Nat) (w : World) (hcap : Cap w Bw Ba A1 c1 x a)
    (hr0 : Kd.C (Kd.slice 64 (Kd.int .u16)) w A0 l0.length l0) (hr1 : Kd.C (Kd.int .u16) w A1 x.length x) (hc1 : x.length ≤ c1) (hl : ∀ y ∈ l0, x.length = y.length) (h7 : x.length ≤ 1048576) (h8 : l0.length ≤ 1048576) :
    Calls Try.prog 45 #[.slice A0 l0.length c0, .func (.func 46) #[] #[.pointer (some ⟨Bw, 0, none⟩), .pointer (some ⟨Ba, 0, none⟩)]] w fun e w' => e = .returned (.bool (l0.any (near a x))) ∧ Below w.heap.size w w' := by
  have H := indexW_calls a A0 c0 l0 A1 c1 x Bw Ba w hcap hr0 hr1 hc1 hl h7 h8
  clear hcap hr0 hr1 hc1 hl h7 h8
  go_enter Try.func45, Try.ntmps45
  go_wp2_with (go_at_call 61; (with_reducible refine H.mono ?_); rintro e w' ⟨r, rfl, hr, hb⟩)
  go_ret
  exact ⟨by rw [← hr]; rfl, hb⟩

end Go.Proofs.Ytabdpdnofljkcaa.Given
