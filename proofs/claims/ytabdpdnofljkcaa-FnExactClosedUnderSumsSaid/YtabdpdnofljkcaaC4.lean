/- Walks of functions that the print does not take. -/
import Derived.Test.YtabdpdnofljkcaaProg
import Derived.Below
import Derived.Deep.Draws
import Derived.Deep.AppendLies
import Derived.Maps.AppendAt
import Derived.OwnWalk
import Derived.Laws.BytesArg
import Derived.Laws.MakeOwn
import Derived.Laws.OwnMore
import Derived.Deep.OwnRows
import Derived.Tactics
import Derived.Lib.ConvBytes
import Derived.Laws.Slices
import Derived.WalkKit
import Derived.KernelRfl
import Derived.RowKit3
import Derived.Deep.LoopGhost
import Derived.Deep.QuietTactic
import Derived.BigQuiet
import Derived.WideLaws
import Derived.Deep.DeepCutAuto
import Derived.Deep.CutBlock
import Derived.Deep.RegionHeld3
import Derived.Laws.Rows
import Derived.Lib.AppendStr
import Derived.ArgAppend
import Derived.Laws.IdiomCopy
import Derived.OrdersHeld
import Derived.Laws.BitsLemmas
import Derived.RowKit
import Derived.Lib.Hide
import Derived.WalkSpells
import Derived.Test.YtabdpdnofljkcaaWWords
import Derived.Test.YtabdpdnofljkcaaWLast
import Derived.Test.YtabdpdnofljkcaaWTab
import Derived.Test.YtabdpdnofljkcaaWFour
import Derived.Test.YtabdpdnofljkcaaWQPut
import Derived.Test.YtabdpdnofljkcaaWApart
import Derived.Test.YtabdpdnofljkcaaWArr
import Derived.Test.YtabdpdnofljkcaaWZeros
import Derived.Test.YtabdpdnofljkcaaWFoot
import Derived.Test.YtabdpdnofljkcaaWKept
import Derived.Test.YtabdpdnofljkcaaWShare
import Derived.Test.YtabdpdnofljkcaaWN
import Derived.Test.YtabdpdnofljkcaaWFootNe
import Derived.Test.YtabdpdnofljkcaaWAt
import Derived.Test.YtabdpdnofljkcaaWEqStruct
import Derived.Test.YtabdpdnofljkcaaWRepsOne
import Derived.Test.YtabdpdnofljkcaaWInv
import Derived.Test.YtabdpdnofljkcaaWInvWords
import Derived.Test.YtabdpdnofljkcaaWGuard
import Derived.Test.YtabdpdnofljkcaaWNEv
import Derived.Test.YtabdpdnofljkcaaWMore
import Derived.Test.YtabdpdnofljkcaaN1
import Derived.Test.YtabdpdnofljkcaaC3
namespace Go.Proofs.Ytabdpdnofljkcaa.Given
open Go.RowKit Go.Proofs.YtabdpdnofljkcaaW.PrintWords Go.Proofs.YtabdpdnofljkcaaW.PrintLast Go.Proofs.YtabdpdnofljkcaaW.PrintMore Go.Proofs.Ytabdpdnofljkcaa.NimF Go.Proofs.Ytabdpdnofljkcaa.NimGo
set_option linter.unusedVariables false
set_option linter.unusedSimpArgs false
def isBW (b : Int) : Bool := b == 2 || b == 4 || b == 16 || b == 256
set_option maxHeartbeats 1000000 in
theorem base_calls (b : Int) (r : Bool) (w : World) (h : isBW b = r) : Calls Try.prog 41 #[.int .i64 b] w fun e w' => e = .returned (.bool r) ∧ w' = w := by
  subst h
  unfold isBW
  by_cases h2 : b = 2
  · subst h2
    go_enter Try.func41, Try.ntmps41
    go_wp2
    go_ret
    exact ⟨rfl, rfl⟩
  by_cases h4 : b = 4
  · subst h4
    go_enter Try.func41, Try.ntmps41
    go_wp2
    go_ret
    exact ⟨rfl, rfl⟩
  by_cases h16 : b = 16
  · subst h16
    go_enter Try.func41, Try.ntmps41
    go_wp2
    go_ret
    exact ⟨rfl, rfl⟩
  have e2 : (b == 2) = false := beq_eq_false_iff_ne.mpr h2
  have e4 : (b == 4) = false := beq_eq_false_iff_ne.mpr h4
  have e16 : (b == 16) = false := beq_eq_false_iff_ne.mpr h16
  rw [e2, e4, e16]
  simp only [Bool.false_or]
  obtain ⟨v, hv⟩ : ∃ v : Bool, (b == 256) = v := ⟨_, rfl⟩
  rw [hv]
  clear h2 h4 h16
  cases v
  · go_enter Try.func41, Try.ntmps41
    go_wp2
    go_ret
    exact ⟨rfl, rfl⟩
  · go_enter Try.func41, Try.ntmps41
    go_wp2
    go_ret
    exact ⟨rfl, rfl⟩

/-- a word of the length and with the numbers that a base lets in -/
def isForW (l : List Int) (b : Int) : Bool := decide (1 ≤ l.length ∧ l.length ≤ 7) && !l.any (over b)
/-- the word at a place of a list, as the program's list takes it -/
def okW (b : Int) (all : List (List Int)) (x : List Int) : Bool := isForW x b && x.length == (all.getD 0 []).length
def listW (b : Int) (l1 l2 : List (List Int)) : Int := if isBW b = true then (if (l1 ++ l2).all (okW b (l1 ++ l2)) = true then (if 300 < l1.length then 3 else 0) else 1) else 2
/-- a word of a list that is laid out anew -/
theorem at_fixed {wb w : World} {A : Option Addr} {l : List (List Int)} (h : Kd.C (Kd.fixed dW wb) w A l.length l) {j : Nat} (hj : j < l.length) : ∃ ad, A = some ad ∧ ∃ A' c', w.cell? (ad.add j) = some (.slice A' (l.getD j []).length c') ∧ Kd.C (Kd.int .u16) wb A' (l.getD j []).length (l.getD j []) := by
  obtain ⟨ad, e, hc⟩ := h.2.2 (by omega)
  obtain ⟨c, hs, ⟨A', c', hcs, hl, hi⟩, hcell⟩ := hc j _ (List.getElem?_eq_getElem hj)
  have eg : l.getD j [] = l[j] := by simp [List.getD, hj]
  subst hcs
  refine ⟨ad, e, A', c', ?_, by rw [eg]; exact hi⟩
  have := hcell 0 _ rfl
  rw [eg]
  have z : j * (Kd.fixed dW wb).sz + 0 = j := by show j * 1 + 0 = j; omega
  rw [z] at this
  exact this
set_option maxHeartbeats 4000000 in
set_option maxRecDepth 100000 in
theorem listCode_calls (a0 : Int) (A1 : Option Addr) (c1 : Nat) (l1 : List (List Int)) (A2 : Option Addr) (c2 : Nat) (l2 : List (List Int)) (r : Int) (w : World) (hr1 : Kd.C dW w A1 l1.length l1) (hc1 : l1.length ≤ c1) (hr2 : Kd.C dW w A2 l2.length l2) (hc2 : l2.length ≤ c2) (hl1 : l1.length ≤ 1048576) (hl2 : l2.length ≤ 1048576) (hh : listW a0 l1 l2 = r) :
    Calls Try.prog 34 #[.int .i64 a0, .slice A1 l1.length c1, .slice A2 l2.length c2] w fun e w' => e = .returned (.int .i64 r) ∧ Below w.heap.size w w' := by
  have HC1 := Lib.hid (cloneW_calls A1 c1 l1 w w (Below.refl _ _) hr1 hc1 hl1)
  have HR2 := Lib.hid hr2
  have HL := Lib.hid (And.intro hl1 hl2)
  obtain ⟨v, hv⟩ : ∃ v, isBW a0 = v := ⟨_, rfl⟩
  have HBS := fun w => Lib.hid (base_calls a0 v w hv)
  unfold listW at hh
  rw [hv] at hh
  clear hr1 hr2 hc1 hc2 hl1 hl2 hv
  cases v with
  | false =>
    have hh2 : (2 : Int) = r := hh
    subst hh2
    go_enter Try.func34, Try.ntmps34
    go_wp2_with (go_at_call 41; refine (HBS _).out.mono ?_; rintro e w' ⟨rfl, hw_⟩; have hw2_ := hw_.symm; clear hw_; subst hw2_)
    go_ret
    exact ⟨rfl, Below.refl _ _⟩
  | true =>
    obtain ⟨all, hall⟩ : ∃ x, x = l1 ++ l2 := ⟨_, rfl⟩
    have HH : Hid ((if all.all (okW a0 all) = true then (if 300 < l1.length then (3 : Int) else 0) else 1) = r) := Lib.hid (by rw [hall]; exact hh)
    have HLA : Hid (all.length ≤ 2097152) := Lib.hid (by rw [hall, List.length_append]; have := HL.out; omega)
    have HA := Lib.hid hall
    clear hh hall
    go_enter Try.func34, Try.ntmps34
    go_wp2_with (first
      | (go_at_call 41; refine (HBS _).out.mono ?_; rintro e w' ⟨rfl, hw_⟩; have hw2_ := hw_.symm; clear hw_; subst hw2_)
      | (go_at_call 56; refine HC1.out.mono ?_; rintro e w1 ⟨v1, rfl, ho, hb⟩; have HO := Lib.hid ho; have HB := Lib.hid hb; clear ho hb)
      | ((with_reducible refine gate_builtin (b := .append) (xs := #[.tmp 14, .tmp 15]) rfl ?_); at_builtin; refine Kd.R_append_rows (Kd.fixed dW w) (Rr := dW.K w) (w0 := w) w.heap.size rfl (.tmp 14) (.tmp 15) 27 42 (.slice none 0 0) 24 rfl Try.underlying27 infoG42 rfl Nat.one_pos (by omega) v1 l1 l2 _ _ _ (fun _ => True) (fun _ => False) rfl rfl ?aO ?aR (fun _ _ h => h) (fun _ h => h.elim) ?aF ?aB ?aS ?aL ?_; (case aR => exact ReadsRow.imp_ HR2.out HB.out (fun _ _ h => h)); (case aB => exact HB.out); (case aF => exact (fun _ _ => trivial)); (case aO => exact HO.out); (case aS => exact HB.out.size); (case aL => have := HL.out; omega); intro v2 w2 ho2 hb2 hg2 hat2; rw [← HA.out] at ho2; obtain ⟨Ao, co, eo⟩ := Kd.R_slice ho2; subst eo; clear HB HO hg2 hat2; have HB := Lib.hid hb2; have HO := Lib.hid (Kd.R_reads' ho2).2.2; clear hb2 ho2))
    go_loopg [19] all.length (fun gg v19 wr => ∃ n : Nat, Hid (n ≤ all.length) ∧ Hid (all.length - n ≤ gg) ∧ v19 = .int .i64 (n : Int) ∧ Hid (Kd.C (Kd.fixed dW w) wr Ao all.length all) ∧ Hid (Below w.heap.size w wr) ∧ Hid ((all.take n).all (okW a0 all) = true))
    case atStart => exact ⟨0, Lib.hid (Nat.zero_le _), Lib.hid (Nat.sub_le _ _), rfl, HO, HB, Lib.hid (by simp)⟩
    case round =>
      clear HO HB
      obtain ⟨n, hn, hg, rfl, HO, HB, HT⟩ := hrel
      by_cases hlt : n < all.length
      · obtain ⟨ad, e, A', c', hx, hi⟩ := at_fixed HO.out hlt
        subst e
        obtain ⟨ad0, e0, A0', c0', hx0, hi0⟩ := at_fixed HO.out (show 0 < all.length by omega)
        obtain rfl := Option.some.inj e0
        have ez : ad.add 0 = ad := by cases ad; simp [Addr.add]
        rw [ez] at hx0
        clear e0 ez hi0
        have hb0 : decide ((n : Int) < (all.length : Int)) = true := decide_eq_true (by omega)
        have hb1 : (n : Int) < (all.length : Int) := by omega
        have hi1 : (0 : Int) ≤ (n : Int) := by omega
        have hz1 : (0 : Int) < (all.length : Int) := by omega
        have hnb : n < 9223372036854775807 := by have := HLA.out; omega
        have TS : Hid ((all.take (n + 1)).all (okW a0 all) = ((all.take n).all (okW a0 all) && okW a0 all (all.getD n []))) := Lib.hid (by rw [List.take_add_one, List.all_append, List.getElem?_eq_getElem hlt]; simp [List.getD, hlt])
        have TW : Hid (okW a0 all (all.getD n []) = false → all.all (okW a0 all) = false) := Lib.hid (fun h => by
          rw [List.all_eq_false]
          exact ⟨all.getD n [], by rw [List.getD_eq_getElem?_getD, List.getElem?_eq_getElem hlt]; exact List.getElem_mem hlt, by rw [h]; simp⟩)
        have E0 : Hid (n = 0 → all.getD n [] = all.getD 0 []) := Lib.hid (fun h => by rw [h])
        obtain ⟨x, ex⟩ : ∃ x, all.getD n [] = x := ⟨_, rfl⟩
        obtain ⟨y, ey⟩ : ∃ y, all.getD 0 [] = y := ⟨_, rfl⟩
        have EO : Hid (okW a0 all x = (isForW x a0 && x.length == y.length)) := Lib.hid (by unfold okW; rw [ey])
        rw [ex] at hx hi TS TW E0
        rw [ey] at hx0 E0
        obtain ⟨v, hv⟩ : ∃ v, isForW x a0 = v := ⟨_, rfl⟩
        have HF := Lib.hid (isFor_calls A' c' x a0 wr (Kd.C_below hi HB.out) v hv)
        rw [hv] at EO
        have HN := Lib.hid hlt
        clear ex ey hi hlt hv
        cases v with
        | false =>
          have e1 : (1 : Int) = r := by have h1 := TW.out EO.out; have h2 := HH.out; rw [h1, if_neg (by simp)] at h2; exact h2
          subst e1
          go_wp2_with (go_at_call 60; refine HF.out.mono ?_; rintro e w3 ⟨rfl, hb⟩; have hz := (hb.cell (World.block_lt_of_cell? _ _ hx0)).trans hx0; have HB3 := Lib.hid (below_step HB.out hb); have HO3 := Lib.hid (Kd.C_below HO.out hb); clear hb)
          go_ret
          exact ⟨rfl, HB3.out⟩
        | true =>
          by_cases h0 : n = 0
          · have exy := E0.out h0
            have TO : Hid ((all.take (n + 1)).all (okW a0 all) = true) := Lib.hid (by rw [TS.out, HT.out, EO.out, exy]; simp)
            have g0 : ¬ ((0 : Int) < (n : Int)) := by omega
            have HZ := Lib.hid h0
            clear h0 exy
            go_wp2_with (go_at_call 60; refine HF.out.mono ?_; rintro e w3 ⟨rfl, hb⟩; have hz := (hb.cell (World.block_lt_of_cell? _ _ hx0)).trans hx0; have HB3 := Lib.hid (below_step HB.out hb); have HO3 := Lib.hid (Kd.C_below HO.out hb); clear hb)
            go_roundg (all.length - (n + 1))
            case measure => have := hg.out; have := HN.out; omega
            case rel => exact ⟨n + 1, Lib.hid HN.out, Lib.hid (Nat.le_refl _), rfl, HO3, HB3, TO⟩
          · have g0 : (0 : Int) < (n : Int) := by omega
            have g0' : 0 < n := by omega
            clear h0
            by_cases hl : x.length = y.length
            · have TO : Hid ((all.take (n + 1)).all (okW a0 all) = true) := Lib.hid (by rw [TS.out, HT.out, EO.out, hl]; simp)
              have hl2 : ((x.length : Int) != (y.length : Int)) = false := by rw [hl]; simp
              have hl3 : ((x.length : Int) == (y.length : Int)) = true := by rw [hl]; simp
              clear hl
              go_wp2_with (go_at_call 60; refine HF.out.mono ?_; rintro e w3 ⟨rfl, hb⟩; have hz := (hb.cell (World.block_lt_of_cell? _ _ hx0)).trans hx0; have HB3 := Lib.hid (below_step HB.out hb); have HO3 := Lib.hid (Kd.C_below HO.out hb); clear hb)
              go_roundg (all.length - (n + 1))
              case measure => have := hg.out; have := HN.out; omega
              case rel => exact ⟨n + 1, Lib.hid HN.out, Lib.hid (Nat.le_refl _), rfl, HO3, HB3, TO⟩
            · have hlb : (x.length == y.length) = false := beq_eq_false_iff_ne.mpr hl
              have e1 : (1 : Int) = r := by have h1 := TW.out (by rw [EO.out, hlb]; rfl); have h2 := HH.out; rw [h1, if_neg (by simp)] at h2; exact h2
              subst e1
              have hl2 : ((x.length : Int) != (y.length : Int)) = true := bne_iff_ne.mpr (by omega)
              have hl3 : ¬ ((x.length : Int) = (y.length : Int)) := by omega
              go_wp2_with (go_at_call 60; refine HF.out.mono ?_; rintro e w3 ⟨rfl, hb⟩; have hz := (hb.cell (World.block_lt_of_cell? _ _ hx0)).trans hx0; have HB3 := Lib.hid (below_step HB.out hb); have HO3 := Lib.hid (Kd.C_below HO.out hb); clear hb)
              go_ret
              exact ⟨rfl, HB3.out⟩
      · have en : n = all.length := by have := hn.out; omega
        subst en
        have hb0 : decide ((all.length : Int) < (all.length : Int)) = false := decide_eq_false (by omega)
        have hr : Hid ((if 300 < l1.length then (3 : Int) else 0) = r) := Lib.hid (by have h1 := HT.out; have h2 := HH.out; rw [List.take_length] at h1; rw [if_pos h1] at h2; exact h2)
        clear HT HH hn hg hlt
        by_cases h3 : 300 < l1.length
        · have g3 : (300 : Int) < (l1.length : Int) := by omega
          have e3 : (3 : Int) = r := by have := hr.out; rw [if_pos h3] at this; exact this
          subst e3
          clear h3 hr
          go_wp2
          go_ret
          exact ⟨rfl, HB.out⟩
        · have g3 : (l1.length : Int) ≤ 300 := by omega
          have e3 : (0 : Int) = r := by have := hr.out; rw [if_neg h3] at this; exact this
          subst e3
          clear h3 hr
          go_wp2
          go_ret
          exact ⟨rfl, HB.out⟩

/-- the code of a base and of words, as the program tells it -/
def impl_listCode.f (a0 : Int) (l1 l2 : List (List Int)) : Option Int := if l1.length ≤ 1048576 ∧ l2.length ≤ 1048576 then some (listW a0 l1 l2) else none
theorem impl_listCode.calls (a0 : Int) (A1 : Option Addr) (c1 : Nat) (l1 : List (List Int)) (A2 : Option Addr) (c2 : Nat) (l2 : List (List Int)) (r : Int) (w : World) (hr1 : Kd.C (Kd.slice 64 (Kd.int .u16)) w A1 l1.length l1) (hc1 : l1.length ≤ c1) (hr2 : Kd.C (Kd.slice 64 (Kd.int .u16)) w A2 l2.length l2) (hc2 : l2.length ≤ c2) (h : impl_listCode.f a0 l1 l2 = some r) :
    Calls Try.prog 34 #[.int .i64 a0, .slice A1 l1.length c1, .slice A2 l2.length c2] w fun e w' => e = .returned (.int .i64 r) ∧ Below w.heap.size w w' := by
  unfold impl_listCode.f at h
  by_cases hl : l1.length ≤ 1048576 ∧ l2.length ≤ 1048576
  · rw [if_pos hl] at h
    exact listCode_calls a0 A1 c1 l1 A2 c2 l2 r w hr1 hc1 hr2 hc2 hl.1 hl.2 (Option.some.inj h)
  · rw [if_neg hl] at h
    exact absurd h (by simp)

end Go.Proofs.Ytabdpdnofljkcaa.Given
