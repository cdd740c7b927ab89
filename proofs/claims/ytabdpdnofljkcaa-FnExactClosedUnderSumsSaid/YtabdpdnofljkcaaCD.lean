/- ClosedUnderSums: walked. -/
import Derived.Test.YtabdpdnofljkcaaProg
import Derived.Below
import Derived.Deep.Draws
import Derived.Deep.AppendLies
import Derived.Maps.AppendAt
import Derived.OwnWalk
import Derived.Laws.BytesArg
import Derived.Laws.MakeOwn
import Derived.Laws.OwnMore
import Derived.Deep.OwnRows
import Derived.Tactics
import Derived.Lib.ConvBytes
import Derived.Laws.Slices
import Derived.WalkKit
import Derived.KernelRfl
import Derived.RowKit3
import Derived.Deep.LoopGhost
import Derived.Deep.QuietTactic
import Derived.BigQuiet
import Derived.WideLaws
import Derived.Deep.DeepCutAuto
import Derived.Deep.CutBlock
import Derived.Deep.RegionHeld3
import Derived.Laws.Rows
import Derived.Lib.AppendStr
import Derived.ArgAppend
import Derived.Laws.IdiomCopy
import Derived.OrdersHeld
import Derived.Laws.BitsLemmas
import Derived.RowKit
import Derived.Lib.Hide
import Derived.WalkSpells
import Derived.Test.YtabdpdnofljkcaaWWords
import Derived.Test.YtabdpdnofljkcaaWLast
import Derived.Test.YtabdpdnofljkcaaWTab
import Derived.Test.YtabdpdnofljkcaaWFour
import Derived.Test.YtabdpdnofljkcaaWQPut
import Derived.Test.YtabdpdnofljkcaaWApart
import Derived.Test.YtabdpdnofljkcaaWArr
import Derived.Test.YtabdpdnofljkcaaWZeros
import Derived.Test.YtabdpdnofljkcaaWFoot
import Derived.Test.YtabdpdnofljkcaaWKept
import Derived.Test.YtabdpdnofljkcaaWShare
import Derived.Test.YtabdpdnofljkcaaWN
import Derived.Test.YtabdpdnofljkcaaWFootNe
import Derived.Test.YtabdpdnofljkcaaWAt
import Derived.Test.YtabdpdnofljkcaaWEqStruct
import Derived.Test.YtabdpdnofljkcaaWRepsOne
import Derived.Test.YtabdpdnofljkcaaWInv
import Derived.Test.YtabdpdnofljkcaaWInvWords
import Derived.Test.YtabdpdnofljkcaaWGuard
import Derived.Test.YtabdpdnofljkcaaWNEv
import Derived.Test.YtabdpdnofljkcaaWMore
import Derived.Test.YtabdpdnofljkcaaN1
import Derived.Test.YtabdpdnofljkcaaCC
import Derived.Test.YtabdpdnofljkcaaRAPTx1
import Derived.Lib.SmallJoins
import Derived.Carry
namespace Go.Proofs.Ytabdpdnofljkcaa.Given
open Go.RowKit Go.Proofs.YtabdpdnofljkcaaW.PrintWords Go.Proofs.YtabdpdnofljkcaaW.PrintLast Go.Proofs.YtabdpdnofljkcaaW.PrintMore Go.Proofs.Ytabdpdnofljkcaa.NimF Go.Proofs.Ytabdpdnofljkcaa.NimGo
set_option linter.unusedVariables false
set_option linter.unusedSimpArgs false
open Go.Proofs.Ytabdpdnofljkcaa.RAPT
open Go.Proofs.Ytabdpdnofljkcaa.NimF
open Go.Proofs.Ytabdpdnofljkcaa.NimGo
def xorl (a b : List Int) : List Int := List.zipWith (fun x y => Go.bits .xor .u16 x y) a b
theorem xorl_length {a b : List Int} (h : a.length = b.length) : (xorl a b).length = a.length := by
  unfold xorl; rw [List.length_zipWith]; omega
theorem xorl_drop {a b : List Int} {i : Nat} (ha : i < a.length) (hb : i < b.length) : (xorl a b).drop i = Go.bits .xor .u16 (a.getD i 0) (b.getD i 0) :: (xorl a b).drop (i + 1) := by
  have h : i < (xorl a b).length := by unfold xorl; rw [List.length_zipWith]; omega
  rw [List.drop_eq_getElem_cons h]
  congr 1
  simp [xorl, List.getD, ha, hb]
theorem plus_loop (a b : List Int) (hl : a.length = b.length) (h7 : a.length ≤ 1048576) : ∀ (d i : Nat) (x : List Int), i + d = a.length → x.length = i → Ev (fun k => impl_Word_plus.l0 k b x a (a.length : Int) (i : Int)) (x ++ (xorl a b).drop i) := by
  intro d
  induction d with
  | zero =>
    intro i x hi hx
    rw [List.drop_eq_nil_of_le (by rw [xorl_length hl]; omega), List.append_nil]
    exact Ev.step (f := fun _ => some x) (fun k => by simp only [impl_Word_plus.l0]; rw [if_neg (by omega)]) (Ev.now _)
  | succ d ih =>
    intro i x hi hx
    have e := ih (i + 1) (x ++ [Go.bits .xor .u16 (a.getD i 0) (b.getD i 0)]) (by omega) (by simp [hx])
    rw [xorl_drop (by omega) (by omega)]
    rw [List.append_assoc, List.singleton_append] at e
    refine Ev.step (f := fun k => impl_Word_plus.l0 k b (x ++ [Go.bits .xor .u16 (a.getD i 0) (b.getD i 0)]) a (a.length : Int) ((i + 1 : Nat) : Int)) (fun k => ?_) e
    simp only [impl_Word_plus.l0]
    rw [if_pos (by omega), if_pos (by omega), if_pos (by omega), if_pos (by omega), if_pos (by omega), rd_nat, rd_nat, w64s (by omega)]
theorem plus_ev (a b : List Int) (hl : a.length = b.length) (h7 : a.length ≤ 1048576) : ∃ K, ∀ k, K ≤ k → impl_Word_plus.f k a b = some (xorl a b) := by
  have e := plus_loop a b hl h7 a.length 0 [] (by omega) rfl
  rw [List.nil_append, List.drop_zero] at e
  exact e

theorem listW_zero {b : Int} {l l2 : List (List Int)} (h : listW b l l2 = 0) : l.length ≤ 300 ∧ (l ++ l2).all (okW b (l ++ l2)) = true := by
  unfold listW at h
  by_cases hb : isBW b = true
  · rw [if_pos hb] at h
    by_cases ha : (l ++ l2).all (okW b (l ++ l2)) = true
    · rw [if_pos ha] at h
      by_cases h3 : 300 < l.length
      · rw [if_pos h3] at h; cases h
      · exact ⟨by omega, ha⟩
    · rw [if_neg ha] at h; cases h
  · rw [if_neg hb] at h; cases h
theorem okW_mem {b : Int} {l : List (List Int)} (h : l.all (okW b l) = true) {x : List Int} (hx : x ∈ l) : x.length = (l.getD 0 []).length ∧ x.length ≤ 7 := by
  have := List.all_eq_true.1 h x hx
  unfold okW isForW at this
  simp only [Bool.and_eq_true, decide_eq_true_eq, beq_iff_eq] at this
  exact ⟨this.2, this.1.1.2⟩
def wfL (l : List (List Int)) : Bool := l.all fun x => x.all fun n => (Lit.int .u16 n).wf
theorem wfL_mem {l : List (List Int)} (h : wfL l = true) : ∀ x ∈ l, ∀ n ∈ x, (Lit.int .u16 n).wf = true := fun x hx n hn => List.all_eq_true.1 (List.all_eq_true.1 h x hx) n hn
def inL (l : List (List Int)) (a c : List Int) : Bool := decide (xorl a c ∈ l)
def rowL (l : List (List Int)) (a : List Int) : Bool := l.all (inL l a)
def cusB (l : List (List Int)) : Bool := l.all (rowL l)
theorem all_take_succ {f : List Int → Bool} {l : List (List Int)} {i : Nat} (hi : i < l.length) : (l.take (i + 1)).all f = ((l.take i).all f && f (l.getD i [])) := by
  rw [take_snoc hi, List.all_append]; simp
theorem all_false {f : List Int → Bool} {l : List (List Int)} {i : Nat} (hi : i < l.length) (h : f (l.getD i []) = false) : l.all f = false := by
  rw [← Bool.not_eq_true]
  intro ha
  rw [List.all_eq_true.1 ha _ (getD_in hi)] at h
  cases h
theorem xor_wf {x y : Int} (hx : (Lit.int .u16 x).wf = true) (hy : (Lit.int .u16 y).wf = true) : (Lit.int .u16 (Go.bits .xor .u16 x y)).wf = true := by
  obtain ⟨a, rfl, ha⟩ := wf_u16 hx
  obtain ⟨b, rfl, hb⟩ := wf_u16 hy
  rw [xor16 ha hb]
  have : a ^^^ b < 2 ^ 16 := Nat.xor_lt_two_pow (by omega) (by omega)
  simp [Lit.wf, IntKind.min, IntKind.max, IntKind.bits, IntKind.signed]
  omega
theorem xorl_wf {a b : List Int} (ha : ∀ n ∈ a, (Lit.int .u16 n).wf = true) (hb : ∀ n ∈ b, (Lit.int .u16 n).wf = true) : ∀ n ∈ xorl a b, (Lit.int .u16 n).wf = true := by
  intro n hn
  obtain ⟨i, hi, rfl⟩ := List.mem_iff_getElem.1 hn
  unfold xorl at hi ⊢
  rw [List.length_zipWith] at hi
  rw [List.getElem_zipWith]
  exact xor_wf (ha _ (List.getElem_mem _)) (hb _ (List.getElem_mem _))
def cusR (b : Int) (l : List (List Int)) : Bool × Int := if listW b l [] = 0 then (cusB l, 0) else (false, listW b l [])
set_option maxHeartbeats 2000000 in
set_option maxRecDepth 100000 in
theorem cus_code (b : Int) (A1 : Option Addr) (c1 : Nat) (l : List (List Int)) (w : World) (hr1 : Kd.C (Kd.slice 64 (Kd.int .u16)) w A1 l.length l) (hc1 : l.length ≤ c1) (hl : l.length ≤ 1048576) (hc : ¬ listW b l [] = 0) :
    Calls Try.prog 26 #[.int .i64 b, .slice A1 l.length c1] w fun e w' => e = .returned (.tuple #[.bool false, .int .i64 (listW b l [])]) ∧ Below w.heap.size w w' := by
  have HLC : ∀ (W : World), Below w.heap.size w W → Hid (Calls Try.prog 34 #[.int .i64 b, .slice A1 l.length c1, .slice none 0 0] W fun e w' => e = .returned (.int .i64 (listW b l [])) ∧ Below W.heap.size W w') := fun (W : World) hW => Lib.hid (impl_listCode.calls b A1 c1 l none 0 [] (listW b l []) W (Kd.C_below hr1 hW) hc1 (Kd.C_nil _ _) (Nat.le_refl _) (by unfold impl_listCode.f; rw [if_pos ⟨hl, by simp⟩]))
  obtain ⟨c, hcc⟩ : ∃ c, listW b l [] = c := ⟨_, rfl⟩
  rw [hcc] at hc HLC ⊢
  have hn1 : (c == 0) = false := beq_eq_false_iff_ne.2 hc
  have hn2 : (c != 0) = true := bne_iff_ne.2 hc
  clear hr1 hc1 hl hc hcc
  go_enter Try.func26, Try.ntmps26
  go_wp2_with (first
    | (go_at_call 34; (with_reducible refine (HLC _ (Below.refl _ _)).out.mono ?_); rintro e w1 ⟨rfl, hb⟩; have HB := Lib.hid hb; clear hb))
  exact bodyPost_ret (v := .tuple #[.bool false, .int .i64 c]) (by simp [results, Try.results26, go_sem]) rfl ⟨rfl, HB.out⟩
set_option maxHeartbeats 4000000 in
set_option maxRecDepth 100000 in
theorem cus_ok (b : Int) (A1 : Option Addr) (c1 : Nat) (l : List (List Int)) (w : World) (hr1 : Kd.C (Kd.slice 64 (Kd.int .u16)) w A1 l.length l) (hc1 : l.length ≤ c1) (hl : l.length ≤ 1048576) (hw : ∀ x ∈ l, ∀ n ∈ x, (Lit.int .u16 n).wf = true) (hc : listW b l [] = 0) :
    Calls Try.prog 26 #[.int .i64 b, .slice A1 l.length c1] w fun e w' => e = .returned (.tuple #[.bool (cusB l), .int .i64 0]) ∧ Below w.heap.size w w' := by
  have HLC : ∀ (W : World), Below w.heap.size w W → Hid (Calls Try.prog 34 #[.int .i64 b, .slice A1 l.length c1, .slice none 0 0] W fun e w' => e = .returned (.int .i64 (listW b l [])) ∧ Below W.heap.size W w') := fun (W : World) hW => Lib.hid (impl_listCode.calls b A1 c1 l none 0 [] (listW b l []) W (Kd.C_below hr1 hW) hc1 (Kd.C_nil _ _) (Nat.le_refl _) (by unfold impl_listCode.f; rw [if_pos ⟨hl, by simp⟩]))
  rw [hc] at HLC
  obtain ⟨h3, hok⟩ := listW_zero hc
  rw [List.append_nil] at hok
  obtain ⟨m, hm⟩ : ∃ m, (l.getD 0 []).length = m := ⟨_, rfl⟩
  have HX : Hid (∀ x ∈ l, x.length = min m 7 ∧ ∀ i ∈ x, (Lit.int .u16 i).wf = true) := Lib.hid (fun x hx => ⟨by have := okW_mem hok hx; omega, hw x hx⟩)
  generalize hm7 : min m 7 = m7 at HX
  have HM7 : Hid (m7 ≤ 7) := Lib.hid (by omega)
  have HAM := Lib.hid (fun (W : World) (hW : Below w.heap.size w W) => among_calls A1 c1 l m7 W (Kd.C_below hr1 hW) hl HM7.out HX.out)
  have HR := Lib.hid hr1
  have hmax : l.length ≤ 9223372036854775807 := by omega
  obtain ⟨res, hres⟩ : ∃ res, cusB l = res := ⟨_, rfl⟩
  rw [hres]
  have HRES := Lib.hid hres
  clear hr1 hc1 hl hw hc h3 hok hm hm7 hres
  go_enter Try.func26, Try.ntmps26
  go_wp2_with (first
    | (go_at_call 34; (with_reducible refine (HLC _ (Below.refl _ _)).out.mono ?_); rintro e w1 ⟨rfl, hb⟩; have HB1 := Lib.hid hb; clear hb)
    | (go_at_call 52; (with_reducible refine (HAM.out _ HB1.out).mono ?_); rintro e w2 ⟨r, rfl, hh, hb⟩; have HH := Lib.hid hh; have HB2 := Lib.hid (below_step HB1.out hb); clear hh hb))
  go_loopg [22] l.length (fun gg v22 wr => ∃ n : Nat, Hid (n ≤ l.length) ∧ Hid (l.length - n ≤ gg) ∧ v22 = .int .i64 (n : Int) ∧ Hid (Has wr r l.length m7 l) ∧ Hid (Below w.heap.size w wr) ∧ Hid ((l.take n).all (rowL l) = true))
  case atStart => exact ⟨0, Lib.hid (Nat.zero_le _), Lib.hid (Nat.sub_le _ _), rfl, HH, HB2, Lib.hid (by simp)⟩
  case round =>
    clear HH HB1 HB2 HAM HLC
    obtain ⟨n, hn, hg, rfl, HH, HB, HT⟩ := hrel
    by_cases hlt : n < l.length
    · obtain ⟨ad, e, A', c', hx, hcx, hi⟩ := at_row (Kd.C_below HR.out HB.out) hlt
      subst e
      have hb0 : decide ((n : Int) < (l.length : Int)) = true := decide_eq_true (by omega)
      have hb1 : (n : Int) < (l.length : Int) := by omega
      have hi0 : (0 : Int) ≤ (n : Int) := by omega
      have hnb : n < 9223372036854775807 := by omega
      have TS := Lib.hid (all_take_succ (f := rowL l) hlt)
      have TF := Lib.hid (fun h => all_false (f := rowL l) hlt h)
      have HY := Lib.hid (HX.out _ (getD_in hlt))
      have HI := Lib.hid hi
      have HCX := Lib.hid hcx
      generalize l.getD n [] = a at hx TS TF HY HI HCX
      have HN := Lib.hid hlt
      clear hi hcx hlt
      go_wp2
      go_loopg [28] l.length (fun gg v28 wr2 => ∃ j : Nat, Hid (j ≤ l.length) ∧ Hid (l.length - j ≤ gg) ∧ v28 = .int .i64 (j : Int) ∧ Hid (Has wr2 r l.length m7 l) ∧ Hid (Below w.heap.size w wr2) ∧ Hid (Below wr.heap.size wr wr2) ∧ Hid ((l.take j).all (inL l a) = true))
      case atStart => exact ⟨0, Lib.hid (Nat.zero_le _), Lib.hid (Nat.sub_le _ _), rfl, HH, HB, Lib.hid (Below.refl _ _), Lib.hid (by simp)⟩
      case round =>
        clear HH HB
        obtain ⟨j, hj, hgj, rfl, HH, HB, HW2, HTJ⟩ := hrel
        by_cases hlt : j < l.length
        · obtain ⟨ad2, e2, A2, c2, hx2, hcx2, hi2⟩ := at_row (Kd.C_below HR.out HB.out) hlt
          have hadd : ad.add = ad2.add := by injection e2 with e2; rw [e2]
          rw [← hadd] at hx2
          have hjb0 : decide ((j : Int) < (l.length : Int)) = true := decide_eq_true (by omega)
          have hjb1 : (j : Int) < (l.length : Int) := by omega
          have hji0 : (0 : Int) ≤ (j : Int) := by omega
          have hjnb : j < 9223372036854775807 := by omega
          have TSJ := Lib.hid (all_take_succ (f := inL l a) hlt)
          have TFJ := Lib.hid (fun h => all_false (f := inL l a) hlt h)
          have HYJ := Lib.hid (HX.out _ (getD_in hlt))
          have HI2 := Lib.hid hi2
          have HCX2 := Lib.hid hcx2
          generalize l.getD j [] = c at hx2 TSJ TFJ HYJ HI2 HCX2
          have HNJ := Lib.hid hlt
          obtain ⟨K, hK⟩ := plus_ev a c (by rw [HY.out.1, HYJ.out.1]) (by rw [HY.out.1]; have := HM7.out; omega)
          have HXL : Hid ((xorl a c).length = m7 ∧ ∀ i ∈ xorl a c, (Lit.int .u16 i).wf = true) := Lib.hid ⟨by rw [xorl_length (by rw [HY.out.1, HYJ.out.1]), HY.out.1], xorl_wf HY.out.2 HYJ.out.2⟩
          have HPL := Lib.hid (impl_Word_plus.calls K A' c' a A2 c2 c (xorl a c) wr (Kd.C_below HI.out HW2.out) HCX.out HI2.out HCX2.out (hK K (Nat.le_refl _)))
          have HIN : Hid (inL l a c = decide (xorl a c ∈ l)) := Lib.hid rfl
          generalize xorl a c = y at HXL HPL HIN
          have HKY := fun A3 c3 W h => Lib.hid (key_calls A3 c3 y W h (by rw [HXL.out.1]; exact HM7.out))
          clear hi2 hcx2 hlt e2 hadd hK
          cases hv : inL l a c with
          | true =>
            have HV : Hid (decide (y ∈ l) = true) := Lib.hid (by rw [← HIN.out, hv])
            have HTS : Hid ((l.take (j + 1)).all (inL l a) = true) := Lib.hid (by rw [TSJ.out, HTJ.out, hv]; rfl)
            clear hv
            go_wp2_with (first
              | (go_at_call 53; (with_reducible refine HPL.out.mono ?_); rintro e w3 ⟨v3, rfl, hr3, hb3⟩; obtain ⟨A3, c3, ev, hc3, hrd3⟩ := Kd.R_reads hr3; subst ev; have HR3 := Lib.hid hrd3; have HB3 := Lib.hid hb3; clear hr3 hb3 hc3 hrd3)
              | (go_at_call 54; (with_reducible refine (HKY _ _ _ HR3.out).out.mono ?_); rintro e w4 ⟨rfl, hb4⟩; have HB4 := Lib.hid hb4; have HH4 := Lib.hid (has_below (has_below HH.out HB3.out) hb4); clear hb4)
              | (with_reducible refine wpList_lookup_has rfl (.tmp 32) (.tmp 36) rfl r l.length m7 l y rfl rfl HH4.out HXL.out.1 HXL.out.2 ?_; rw [HV.out]))
            go_roundg (l.length - (j + 1))
            case measure => have := hgj.out; have := HNJ.out; omega
            case rel => exact ⟨j + 1, Lib.hid HNJ.out, Lib.hid (Nat.le_refl _), by first | rfl | go_num, HH4, Lib.hid (below_step (below_step HB.out HB3.out) HB4.out), Lib.hid (below_step (below_step HW2.out HB3.out) HB4.out), HTS⟩
          | false =>
            have HV : Hid (decide (y ∈ l) = false) := Lib.hid (by rw [← HIN.out, hv])
            have HE : Hid (res = false) := Lib.hid (by rw [← HRES.out]; exact TF.out (TFJ.out hv))
            clear hv
            go_wp2_with (first
              | (go_at_call 53; (with_reducible refine HPL.out.mono ?_); rintro e w3 ⟨v3, rfl, hr3, hb3⟩; obtain ⟨A3, c3, ev, hc3, hrd3⟩ := Kd.R_reads hr3; subst ev; have HR3 := Lib.hid hrd3; have HB3 := Lib.hid hb3; clear hr3 hb3 hc3 hrd3)
              | (go_at_call 54; (with_reducible refine (HKY _ _ _ HR3.out).out.mono ?_); rintro e w4 ⟨rfl, hb4⟩; have HB4 := Lib.hid hb4; have HH4 := Lib.hid (has_below (has_below HH.out HB3.out) hb4); clear hb4)
              | (with_reducible refine wpList_lookup_has rfl (.tmp 32) (.tmp 36) rfl r l.length m7 l y rfl rfl HH4.out HXL.out.1 HXL.out.2 ?_; rw [HV.out]))
            rw [HE.out]
            exact bodyPost_ret (v := .tuple #[.bool false, .int .i64 0]) (by simp [results, Try.results26, go_sem]) rfl ⟨rfl, below_step (below_step HB.out HB3.out) HB4.out⟩
        · have en : j = l.length := by have := hj.out; omega
          subst en
          have hjb0 : decide ((l.length : Int) < (l.length : Int)) = false := decide_eq_false (by omega)
          have HTN : Hid ((l.take (n + 1)).all (rowL l) = true) := Lib.hid (by have h1 : rowL l a = true := (by have := HTJ.out; rw [List.take_length] at this; exact this); rw [TS.out, HT.out, h1]; rfl)
          clear hj hgj hlt
          go_wp2
          go_roundg (l.length - (n + 1))
          case measure => have := hg.out; have := HN.out; omega
          case rel => exact ⟨n + 1, Lib.hid HN.out, Lib.hid (Nat.le_refl _), by first | rfl | go_num, HH, HB, HTN⟩
    · have en : n = l.length := by have := hn.out; omega
      subst en
      have hb0 : decide ((l.length : Int) < (l.length : Int)) = false := decide_eq_false (by omega)
      have HE : Hid (res = true) := Lib.hid (by have := HT.out; rw [List.take_length] at this; rw [← HRES.out]; exact this)
      clear hn hg hlt
      go_wp2
      rw [HE.out]
      exact bodyPost_ret (v := .tuple #[.bool true, .int .i64 0]) (by simp [results, Try.results26, go_sem]) rfl ⟨rfl, HB.out⟩
def impl_ClosedUnderSums.f (a0 : Int) (l1 : List (List Int)) : Option (Bool × Int) := if l1.length ≤ 1048576 ∧ wfL l1 = true then some (cusR a0 l1) else none
theorem impl_ClosedUnderSums.calls (a0 : Int) (A1 : Option Addr) (c1 : Nat) (l1 : List (List Int)) (r1 : Bool) (r2 : Int) (w : World) (hr1 : Kd.C (Kd.slice 64 (Kd.int .u16)) w A1 l1.length l1) (hc1 : l1.length ≤ c1) (h : impl_ClosedUnderSums.f a0 l1 = some (r1, r2)) :
    Calls Try.prog 26 #[.int .i64 a0, .slice A1 l1.length c1] w fun e w' => e = .returned (.tuple #[.bool r1, .int .i64 r2]) ∧ Below w.heap.size w w' := by
  unfold impl_ClosedUnderSums.f at h
  by_cases hh : l1.length ≤ 1048576 ∧ wfL l1 = true
  · rw [if_pos hh] at h
    unfold cusR at h
    by_cases hc : listW a0 l1 [] = 0
    · rw [if_pos hc] at h
      simp only [Option.some.injEq, Prod.mk.injEq] at h
      obtain ⟨rfl, rfl⟩ := h
      exact cus_ok a0 A1 c1 l1 w hr1 hc1 hh.1 (wfL_mem hh.2) hc
    · rw [if_neg hc] at h
      simp only [Option.some.injEq, Prod.mk.injEq] at h
      obtain ⟨rfl, rfl⟩ := h
      exact cus_code a0 A1 c1 l1 w hr1 hc1 hh.1 hc
  · rw [if_neg hh] at h; cases h

end Go.Proofs.Ytabdpdnofljkcaa.Given
