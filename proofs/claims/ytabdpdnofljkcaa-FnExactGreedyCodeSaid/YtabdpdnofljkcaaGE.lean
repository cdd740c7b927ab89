/- The law of the greedy code: walked. -/
import Derived.Test.YtabdpdnofljkcaaProg
import Derived.Below
import Derived.Deep.Draws
import Derived.Deep.AppendLies
import Derived.Maps.AppendAt
import Derived.OwnWalk
import Derived.Laws.BytesArg
import Derived.Laws.MakeOwn
import Derived.Laws.OwnMore
import Derived.Deep.OwnRows
import Derived.Tactics
import Derived.Lib.ConvBytes
import Derived.Laws.Slices
import Derived.WalkKit
import Derived.KernelRfl
import Derived.RowKit3
import Derived.Deep.LoopGhost
import Derived.Deep.QuietTactic
import Derived.BigQuiet
import Derived.WideLaws
import Derived.Deep.DeepCutAuto
import Derived.Deep.CutBlock
import Derived.Deep.RegionHeld3
import Derived.Laws.Rows
import Derived.Lib.AppendStr
import Derived.ArgAppend
import Derived.Laws.IdiomCopy
import Derived.OrdersHeld
import Derived.Laws.BitsLemmas
import Derived.RowKit
import Derived.Lib.Hide
import Derived.WalkSpells
import Derived.Test.YtabdpdnofljkcaaWWords
import Derived.Test.YtabdpdnofljkcaaWLast
import Derived.Test.YtabdpdnofljkcaaWTab
import Derived.Test.YtabdpdnofljkcaaWFour
import Derived.Test.YtabdpdnofljkcaaWQPut
import Derived.Test.YtabdpdnofljkcaaWApart
import Derived.Test.YtabdpdnofljkcaaWArr
import Derived.Test.YtabdpdnofljkcaaWZeros
import Derived.Test.YtabdpdnofljkcaaWFoot
import Derived.Test.YtabdpdnofljkcaaWKept
import Derived.Test.YtabdpdnofljkcaaWShare
import Derived.Test.YtabdpdnofljkcaaWN
import Derived.Test.YtabdpdnofljkcaaWFootNe
import Derived.Test.YtabdpdnofljkcaaWAt
import Derived.Test.YtabdpdnofljkcaaWEqStruct
import Derived.Test.YtabdpdnofljkcaaWRepsOne
import Derived.Test.YtabdpdnofljkcaaWInv
import Derived.Test.YtabdpdnofljkcaaWInvWords
import Derived.Test.YtabdpdnofljkcaaWGuard
import Derived.Test.YtabdpdnofljkcaaWNEv
import Derived.Test.YtabdpdnofljkcaaWMore
import Derived.Test.YtabdpdnofljkcaaN1
import Derived.Test.YtabdpdnofljkcaaGD
import Derived.Lib.SmallJoins
namespace Go.Proofs.Ytabdpdnofljkcaa.Given
open Go.RowKit Go.Proofs.YtabdpdnofljkcaaW.PrintWords Go.Proofs.YtabdpdnofljkcaaW.PrintLast Go.Proofs.YtabdpdnofljkcaaW.PrintMore Go.Proofs.Ytabdpdnofljkcaa.NimF Go.Proofs.Ytabdpdnofljkcaa.NimGo
set_option linter.unusedVariables false
set_option linter.unusedSimpArgs false
open Go.Proofs.Ytabdpdnofljkcaa.PFnExactGreedyCode
open Go.Proofs.Ytabdpdnofljkcaa.RAPT
open Go.Proofs.Ytabdpdnofljkcaa.NimF
open Go.Proofs.Ytabdpdnofljkcaa.NimGo
theorem eqWord_ev (l : List Int) (h : l.length ≤ 1048576) : ∃ K, ∀ k, K ≤ k → laws_eqWord.f k l l = some true :=
  eq_refl_ev (fun _ _ _ => rfl) (fun _ _ _ _ => rfl) l (by omega)

theorem rdL1 (xs : List (List Int)) (i : Nat) : rd_L1 xs (i : Int) = xs.getD i [] := by simp [rd_L1]
theorem getD_mem {l : List (List Int)} {i : Nat} (h : i < l.length) : l.getD i [] ∈ l := by
  have e : l.getD i [] = l[i] := by simp [List.getD, h]
  rw [e]; exact List.getElem_mem h
theorem eqWordS_loop (l : List (List Int)) (hl : l.length ≤ 1048576) (hx : ∀ x ∈ l, x.length ≤ 1048576) : ∀ d i, i + d = l.length → Ev (fun k => laws_eqWordS.l0 k l l (i : Int)) true := by
  intro d
  induction d with
  | zero =>
    intro i hi
    exact Ev.step (f := fun _ => some true) (fun k => by simp only [laws_eqWordS.l0]; rw [if_neg (by omega)]) (Ev.now _)
  | succ d ih =>
    intro i hi
    refine Ev.step (f := fun k => (laws_eqWord.f k (l.getD i []) (l.getD i [])).bind fun t => if t = true then laws_eqWordS.l0 k l l ((i + 1 : Nat) : Int) else some false) (fun k => ?_) (Ev.bind (eqWord_ev _ (hx _ (getD_mem (by omega)))) (Ev.congr (fun k => by rw [if_pos rfl]) (ih (i + 1) (by omega))))
    simp only [laws_eqWordS.l0]
    rw [if_pos (by omega), if_pos (by omega), if_pos (by omega)]
    congr 1
    funext t
    rw [w64s (by omega)]
theorem eqWordS_ev (l : List (List Int)) (hl : l.length ≤ 1048576) (hx : ∀ x ∈ l, x.length ≤ 1048576) : Ev (fun k => laws_eqWordS.f k l l) true :=
  Ev.congr (fun k => by unfold laws_eqWordS.f; rw [if_pos rfl]; rfl) (eqWordS_loop l hl hx l.length 0 (by omega))

theorem grd_ok (b a : Int) (n : Nat) : ∀ d p (out : List (List Int)), Ok n out → out.length ≤ 300 → Ok n (grd b a n d p out).1 ∧ (grd b a n d p out).1.length ≤ 300 := by
  intro d
  induction d with
  | zero => intro p out h1 h2; exact ⟨h1, h2⟩
  | succ d ih =>
    intro p out h1 h2
    have hg : grd b a n (d + 1) p out = if out.any (near a (wordAt b n p)) then grd b a n d (p + 1) out else if out.length = 300 then ([], 7) else grd b a n d (p + 1) (out ++ [wordAt b n p]) := rfl
    rw [hg]
    split
    · exact ih _ _ h1 h2
    · split
      · exact ⟨(by intro x hx; cases hx), by simp⟩
      · exact ih _ _ (Ok_snoc h1 b p) (by rw [List.length_append, List.length_singleton]; omega)
theorem greedy_ok (b len a : Int) : (greedy b len a).1.length ≤ 300 ∧ ∀ x ∈ (greedy b len a).1, x.length ≤ 7 := by
  unfold greedy
  split
  next h =>
    split
    · exact ⟨by simp, by intro x hx; cases hx⟩
    · have := grd_ok b a len.toNat (mulN b len.toNat 1).toNat 0 [] (by intro x hx; cases hx) (by simp)
      exact ⟨this.2, fun x hx => by rw [(this.1 x hx).1]; omega⟩
  · exact ⟨by simp, by intro x hx; cases hx⟩
theorem impl_calls (b len a : Int) (w : World) : Calls Try.prog 16 #[.int .i64 b, .int .i64 len, .int .i64 a] w fun e w' => ∃ v, e = .returned (.tuple #[v, .int .i64 (greedy b len a).2]) ∧ Kd.S (Kd.slice 64 (Kd.int .u16)) 42 w' w.heap.size (fun _ => True) v (greedy b len a).1 ∧ Below w.heap.size w w' := by
  by_cases h1 : isB b = true
  · by_cases h2 : 1 ≤ len ∧ len ≤ 7
    · by_cases h3 : 1 ≤ a ∧ a ≤ len
      · obtain ⟨n, rfl⟩ := Int.eq_ofNat_of_zero_le (show 0 ≤ len by omega)
        obtain ⟨N, hN⟩ := Int.eq_ofNat_of_zero_le (mulN_pos h1 n (by omega) (by omega))
        by_cases h5 : (N : Int) ≤ 5000
        · exact greedy_all b a n N h1 h2 h3 hN h5 w
        · exact greedy_far b a n N h1 h2 h3 hN (by omega) w
      · exact greedy_no3 b len a h1 h2 h3 (fun h => h3 h.2.2) w
    · exact greedy_no2 b len a h1 h2 (fun h => h2 h.2.1) w
  · exact greedy_no1 b len a (by simpa using h1) (fun h => h1 h.1) w
set_option maxHeartbeats 4000000 in
set_option maxRecDepth 100000 in
theorem law_calls (b len a : Int) (w : World) : Calls Try.prog 4 #[.int .i64 b, .int .i64 len, .int .i64 a] w fun e w' => e = .returned (.bool true) ∧ Below w.heap.size w w' := by
  obtain ⟨K1, hK1⟩ := sgreedy b len a
  have HI := fun w => Lib.hid (impl_calls b len a w)
  have hs := greedy_ok b len a
  obtain ⟨l, c, hr⟩ : ∃ l c, greedy b len a = (l, c) := ⟨_, _, rfl⟩
  rw [hr] at hK1 HI hs
  replace hs : l.length ≤ 300 ∧ ∀ x ∈ l, x.length ≤ 7 := hs
  have HSP := fun w => Lib.hid (spec_GreedyCode.calls K1 b len a l c w (hK1 K1 (Nat.le_refl _)))
  have ht : tot l ≤ 2100 := by have h1 := tot_le l 7 hs.2; have h2 := hs.1; have h3 : l.length * 7 ≤ 300 * 7 := Nat.mul_le_mul_right 7 h2; omega
  obtain ⟨K2, hK2⟩ := eqWordS_ev l (by have := hs.1; omega) (fun x hx => by have := hs.2 x hx; omega)
  obtain ⟨K3, hK3⟩ := heldWS_ev l 1 (by omega) (by omega) (by have := hs.1; omega)
  have HEQ := fun A0 c0 A1 c1 w h1 h2 h3 h4 => Lib.hid (laws_eqWordS.calls K2 A0 c0 l A1 c1 l true w h1 h2 h3 h4 (hK2 K2 (Nat.le_refl _)))
  have HMK := fun A c w0 w hB hS => Lib.hid (markWS_calls l 1 (by omega) (by omega) (by have := hs.1; omega) A c w0 w hB hS)
  have hheld := fun A0 c0 w h1 h2 => laws_heldWordS.calls K3 A0 c0 (mL 1 l) 1 _ w h1 h2 (hK3 K3 (Nat.le_refl _))
  simp only [mL_length] at hheld
  have HHE := fun A0 c0 w h1 h2 => Lib.hid (hheld A0 c0 w h1 h2)
  have ht0 : (0 : Int) ≤ (tot l : Int) := by omega
  generalize tot l = t at HMK HHE ht ht0
  have HT : Hid (¬ (1 + (t : Int) < 0)) := Lib.hid (by omega)
  obtain ⟨q, hq⟩ : ∃ q : Int, 1 + (t : Int) = q := ⟨_, rfl⟩
  rw [hq] at HMK HHE HT
  have hq0 : decide (q < 0) = false := decide_eq_false HT.out
  have hqq : 0 ≤ q := by omega
  clear hr hs ht ht0 hK1 hK2 hK3 hheld hq HT
  go_enter Try.func4, Try.ntmps4
  go_wp2_with (first
    | (go_at_call 15; (with_reducible refine (HSP _).out.mono ?_); rintro e W1 ⟨v0, rfl, hs0, hb0⟩; obtain ⟨A0, c0, ev0, hc0, hr0⟩ := Kd.S_reads hs0; subst ev0; have HC0 := Lib.hid hc0; have HR0 := Lib.hid hr0; have HB0 := Lib.hid hb0; clear hs0 hb0 hc0 hr0; refine Hid.out ?_))
  refine Lib.hid ?_
  go_wp2_with (first
    | (go_at_call 16; (with_reducible refine (HI _).out.mono ?_); rintro e W2 ⟨v1, rfl, hs1, hb1⟩; obtain ⟨A1, c1, ev1, hc1, hr1⟩ := Kd.S_reads hs1; subst ev1; have HS1 := Lib.hid hs1; have HC1 := Lib.hid hc1; have HR1 := Lib.hid hr1; have HB1 := Lib.hid hb1; clear hs1 hb1 hc1 hr1)
    | (go_at_call 14; (with_reducible refine (HEQ _ _ _ _ _ ?p1 HC1.out ?p2 HC0.out).out.mono ?_); (case p1 => exact HR1.out); (case p2 => exact Kd.C_below HR0.out HB1.out); rintro e W3 ⟨rfl, ⟨nd, rfl⟩⟩; have HS2 := Lib.hid (Kd.S_drewN HS1.out nd); have HB2 := Lib.hid (pw_below_drewN HB1.out nd))
    | (go_at_call 17; (with_reducible refine (HMK _ _ W1 _ ?p3 ?p4).out.mono ?_); (case p3 => exact HB2.out); (case p4 => exact HS2.out); rintro e W4 ⟨rfl, hs4, hb4⟩; have HS4 := Lib.hid hs4; have HB4 := Lib.hid hb4; clear hs4 hb4; refine Hid.out ?_))
  refine Lib.hid ?_
  have HR4 : Hid (Kd.C (Kd.slice 64 (Kd.int .u16)) W4 A1 l.length (mL 1 l)) := Lib.hid (by have := (Kd.S_reads' HS4.out); rw [mL_length] at this; exact this.2.2)
  go_wp2_with (first
    | (go_at_call 18; (with_reducible refine (HHE _ _ _ ?p5 HC1.out).out.mono ?_); (case p5 => exact HR4.out); rintro e W5 ⟨rfl, ⟨nd5, rfl⟩⟩; refine Hid.out ?_))
  refine Lib.hid ?_
  go_wp2_with (first
    | (go_at_call 16; (with_reducible refine (HI _).out.mono ?_); rintro e W6 ⟨v6, rfl, hs6, hb6⟩; obtain ⟨A6, c6, ev6, hc6, hr6⟩ := Kd.S_reads hs6; subst ev6; have HC6 := Lib.hid hc6; have HR6 := Lib.hid hr6; have HB6 := Lib.hid hb6; have HR5 := Lib.hid (Kd.C_below (Kd.C_drewN HR4.out nd5) hb6); have HR7 := Lib.hid (Kd.C_below (Kd.C_below HR0.out HB4.out) ((pw_below_drewN (Below.refl _ _) nd5).trans (hb6.mono (by simp)))); clear hs6 hb6 hc6 hr6)
    | (go_at_call 14; (with_reducible refine (HEQ _ _ _ _ _ ?p1 HC6.out ?p2 HC0.out).out.mono ?_); (case p1 => exact HR6.out); (case p2 => exact HR7.out); rintro e W8 ⟨rfl, ⟨nd8, rfl⟩⟩; refine Hid.out ?_))
  refine Lib.hid ?_
  go_wp2_with (first
    | (go_at_call 18; (with_reducible refine (HHE _ _ _ ?p5 HC1.out).out.mono ?_); (case p5 => exact Kd.C_drewN HR5.out nd8); rintro e W9 ⟨rfl, ⟨nd9, rfl⟩⟩; refine Hid.out ?_))
  refine Lib.hid ?_
  go_wp2
  go_ret
  exact ⟨rfl, pw_below_drewN ((HB0.out.trans (HB4.out.mono (below_size HB0.out))).trans ((pw_below_drewN (Below.refl _ _) nd5).trans (HB6.out.mono (by have h1 := HB0.out.size; have h4 := HB4.out.size; simp; omega)))) _⟩

end Go.Proofs.Ytabdpdnofljkcaa.Given
