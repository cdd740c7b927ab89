/- RepairWith: walked. -/
import Derived.Test.YtabdpdnofljkcaaProg
import Derived.Below
import Derived.Deep.Draws
import Derived.Deep.AppendLies
import Derived.Maps.AppendAt
import Derived.OwnWalk
import Derived.Laws.BytesArg
import Derived.Laws.MakeOwn
import Derived.Laws.OwnMore
import Derived.Deep.OwnRows
import Derived.Tactics
import Derived.Lib.ConvBytes
import Derived.Laws.Slices
import Derived.WalkKit
import Derived.KernelRfl
import Derived.RowKit3
import Derived.Deep.LoopGhost
import Derived.Deep.QuietTactic
import Derived.BigQuiet
import Derived.WideLaws
import Derived.Deep.DeepCutAuto
import Derived.Deep.CutBlock
import Derived.Deep.RegionHeld3
import Derived.Laws.Rows
import Derived.Lib.AppendStr
import Derived.ArgAppend
import Derived.Laws.IdiomCopy
import Derived.OrdersHeld
import Derived.Laws.BitsLemmas
import Derived.RowKit
import Derived.Lib.Hide
import Derived.WalkSpells
import Derived.Test.YtabdpdnofljkcaaWWords
import Derived.Test.YtabdpdnofljkcaaWLast
import Derived.Test.YtabdpdnofljkcaaWTab
import Derived.Test.YtabdpdnofljkcaaWFour
import Derived.Test.YtabdpdnofljkcaaWQPut
import Derived.Test.YtabdpdnofljkcaaWApart
import Derived.Test.YtabdpdnofljkcaaWArr
import Derived.Test.YtabdpdnofljkcaaWZeros
import Derived.Test.YtabdpdnofljkcaaWFoot
import Derived.Test.YtabdpdnofljkcaaWKept
import Derived.Test.YtabdpdnofljkcaaWShare
import Derived.Test.YtabdpdnofljkcaaWN
import Derived.Test.YtabdpdnofljkcaaWFootNe
import Derived.Test.YtabdpdnofljkcaaWAt
import Derived.Test.YtabdpdnofljkcaaWEqStruct
import Derived.Test.YtabdpdnofljkcaaWRepsOne
import Derived.Test.YtabdpdnofljkcaaWInv
import Derived.Test.YtabdpdnofljkcaaWInvWords
import Derived.Test.YtabdpdnofljkcaaWGuard
import Derived.Test.YtabdpdnofljkcaaWNEv
import Derived.Test.YtabdpdnofljkcaaWMore
import Derived.Test.YtabdpdnofljkcaaN1
import Derived.Test.YtabdpdnofljkcaaRC
import Derived.Lib.SmallJoins
import Derived.Lib.SliceRun
namespace Go.Proofs.Ytabdpdnofljkcaa.Given
open Go.RowKit Go.Proofs.YtabdpdnofljkcaaW.PrintWords Go.Proofs.YtabdpdnofljkcaaW.PrintLast Go.Proofs.YtabdpdnofljkcaaW.PrintMore Go.Proofs.Ytabdpdnofljkcaa.NimF Go.Proofs.Ytabdpdnofljkcaa.NimGo
set_option linter.unusedVariables false
set_option linter.unusedSimpArgs false
open Go.Proofs.Ytabdpdnofljkcaa.NimF
open Go.Proofs.Ytabdpdnofljkcaa.NimGo
theorem infoG64 : (Try.prog.info? 64).map (fun i => (i.zero, i.size, i.bytes)) = some (some (.int .u16 0), 1, 2) := by kernel_rfl
/-- the library's copy of a list -/
def cloneL (l : List Int) : Option (List Int) := if l.length < 70368744177664 then some l else none
set_option maxHeartbeats 1000000 in
set_option maxRecDepth 100000 in
theorem clone_calls (A0 : Option Addr) (c0 : Nat) (l0 r : List Int) (w : World) (hr0 : Kd.C (Kd.int .u16) w A0 l0.length l0) (hc0 : l0.length ≤ c0) (h : cloneL l0 = some r) :
    Calls Try.prog 58 #[.slice A0 l0.length c0] w fun e w' => ∃ v0_ : Value, e = .returned (v0_) ∧ Kd.R (Kd.int .u16) 64 w' w.heap.size (fun _ => True) v0_ r ∧ Below w.heap.size w w' := by
  unfold cloneL at h
  by_cases hl : l0.length < 70368744177664
  · rw [if_pos hl] at h
    obtain rfl := Option.some.inj h
    have HR := Lib.hid hr0
    have HL := Lib.hid hl
    have hen := fun (w : World) (a : Option Addr) (n c n' c' : Nat) => Lib.run_eql_slice_nil (P := Try.prog) w 42 64 a n c n' c' Try.underlying42
    rcases A0 with _ | ad
    · have h0 : l0 = [] := by
        have := HR.out.2.2
        rcases Nat.eq_zero_or_pos l0.length with e | e
        · exact List.eq_nil_of_length_eq_zero e
        · obtain ⟨ad, e, _⟩ := this e
          cases e
      subst h0
      clear HR hr0 hc0 hl h
      go_enter Try.func58, Try.ntmps58
      go_wp2
      go_ret
      exact ⟨_, rfl, Kd.R_nil _ _ _ _ _, Below.refl _ _⟩
    · clear hr0 hc0 hl h
      go_enter Try.func58, Try.ntmps58
      go_wp2_with (first | ((with_reducible refine gate_dst (N := 5) rfl ?_); refine Kd.R_lit (w0 := w) (Kd.int .u16) w.heap.size 64 ?hg (N := 5) ?hd (xs := ([] : List Int)) (inner := []) (ok := fun _ => True) (okp := fun _ => True) ?hr ?hp (fun _ hk => hk) trivial (Below.refl _ _) (Nat.le_refl _) (by simp) ?_; (case hd => rfl); (case hg => rfl); (case hr => first | (go_simp; done) | (go_simp; rfl)); (case hp => exact (Reps.none _ _)); intro v1 w1 ho hb hg_ hnew_; clear hg_ hnew_; have HO := Lib.hid ho; have HB := Lib.hid hb; clear ho hb) | ((with_reducible refine gate_builtin (b := .append) (xs := #[.tmp 5, .tmp 6]) rfl ?_); at_builtin; refine Kd.R_append_rows (Kd.int .u16) (w0 := w) w.heap.size rfl (.tmp 5) (.tmp 6) 42 64 (.int .u16 0) 2 rfl Try.underlying42 infoG64 rfl (by decide) (by omega) v1 [] l0 _ _ _ (fun _ => True) (fun _ => False) rfl rfl ?aO ?aR (fun _ _ h => h) (fun _ h => h.elim) ?aF ?aB ?aS ?aL ?_; (case aR => exact Kd.C_below HR.out HB.out); (case aB => exact HB.out); (case aF => exact (fun _ _ => trivial)); (case aO => exact HO.out); (case aS => exact HB.out.size); (case aL => have := HL.out; simp only [List.length_nil]; omega); intro v2 w2 ho2 hb2 hg2 hat2; clear HB HO; have HB := Lib.hid hb2; have HO := Lib.hid ho2; clear hb2 ho2 hg2 hat2))
      go_ret
      exact ⟨_, rfl, HO.out, HB.out⟩
  · rw [if_neg hl] at h
    exact absurd h (by simp)

theorem C_one {W : World} {g : Nat} {A : Option Addr} {c : Nat} {x : List Int} (h : W.cell? ⟨g, 0, none⟩ = some (.slice A x.length c)) (hc : x.length ≤ c) (hr : Kd.C (Kd.int .u16) W A x.length x) : Kd.C (Kd.slice 64 (Kd.int .u16)) W (some ⟨g, 0, none⟩) 1 [x] := by
  refine ⟨rfl, by decide, fun _ => ⟨_, rfl, fun j y hy => ?_⟩⟩
  match j, hy with
  | 0, hy =>
    obtain rfl : x = y := by simpa using hy
    refine ⟨[.slice A x.length c], rfl, ⟨A, c, rfl, hc, hr⟩, fun i u hu => ?_⟩
    match i, hu with
    | 0, hu =>
      obtain rfl : Value.slice A x.length c = u := by simpa using hu
      exact h
    | i + 1, hu => simp at hu
  | j + 1, hy => simp at hy
theorem fixed_row {wb w : World} {g : Nat} {l : List (List Int)} (h : Kd.C (Kd.fixed dW wb) w (some ⟨g, 0, none⟩) l.length l) {cells : Array Value} (hB : w.heap[g]? = some (.cells cells 42 (0, 0))) : RdL wb cells.toList l := by
  intro j hj
  obtain ⟨ad, e, hc⟩ := h.2.2 (by omega)
  obtain ⟨c, hs, ⟨A', c', hcs, hl, hi⟩, hcell⟩ := hc j _ (List.getElem?_eq_getElem hj)
  have eg : l.getD j [] = l[j] := by simp [List.getD, hj]
  subst hcs
  injection e with e
  subst e
  have := hcell 0 _ rfl
  have z : j * (Kd.fixed dW wb).sz + 0 = j := by show j * 1 + 0 = j; omega
  rw [z, add_at, Nat.zero_add, Go.Joins.cell_of_block hB] at this
  refine ⟨_, by simpa using this, A', c', ?_, ?_, ?_⟩
  · rw [eg]
  · rw [eg]; exact hl
  · rw [eg]; exact hi
set_option maxHeartbeats 2000000 in
set_option maxRecDepth 100000 in
theorem rep_code (b : Int) (A1 : Option Addr) (c1 : Nat) (l : List (List Int)) (A2 : Option Addr) (c2 : Nat) (x : List Int) (t : Int) (w : World) (hr1 : Kd.C (Kd.slice 64 (Kd.int .u16)) w A1 l.length l) (hc1 : l.length ≤ c1) (hr2 : Kd.C (Kd.int .u16) w A2 x.length x) (hc2 : x.length ≤ c2) (hl : l.length ≤ 1048576) (hc : ¬ listW b l [x] = 0) : Calls Try.prog 28 #[.int .i64 b, .slice A1 l.length c1, .slice A2 x.length c2, .int .i64 t] w fun e w' => ∃ v, e = .returned (.tuple #[v, .int .i64 (repR b l x t).2]) ∧ Kd.R (Kd.int .u16) 64 w' w.heap.size (fun _ => True) v (repR b l x t).1 ∧ Below w.heap.size w w' := by
  have HLC : Hid (∀ (W : World) (g : Nat), W.cell? ⟨g, 0, none⟩ = some (.slice A2 x.length c2) → Below w.heap.size w W → Calls Try.prog 34 #[.int .i64 b, .slice A1 l.length c1, .slice (some ⟨g, 0, none⟩) 1 1] W fun e w' => e = .returned (.int .i64 (listW b l [x])) ∧ Below W.heap.size W w') := Lib.hid (fun W g hc hb => impl_listCode.calls b A1 c1 l (some ⟨g, 0, none⟩) 1 [x] _ W (Kd.C_below hr1 hb) hc1 (C_one hc hc2 (Kd.C_below hr2 hb)) (by simp) (by unfold impl_listCode.f; rw [if_pos ⟨hl, by simp⟩]))
  have hR : repR b l x t = ([], listW b l [x]) := by unfold repR; rw [if_neg hc]
  rw [hR]
  obtain ⟨c, hcc⟩ : ∃ c, listW b l [x] = c := ⟨_, rfl⟩
  rw [hcc] at HLC hc ⊢
  have hn1 : (c == 0) = false := beq_eq_false_iff_ne.2 hc
  have hn2 : (c != 0) = true := bne_iff_ne.2 hc
  clear hr1 hc1 hr2 hc2 hl hcc hc hR
  have HB0 : Hid (Below w.heap.size w w) := Lib.hid (Below.refl _ _)
  go_enter Try.func28, Try.ntmps28
  go_wp2_with (first
    | ((with_reducible refine gate_dst (N := 6) rfl ?_); refine box_event ?hg (N := 6) ?hd (cs := #[.slice A2 x.length c2]) (t := 42) ?hr ?_; (case hd => rfl); (case hg => rfl); (case hr => first | (go_simp; done) | (go_simp; rfl)); intro M1 hM1 W1 hbox1 hb1; have hca := Go.Joins.cell_of_block hbox1 0; simp only [List.getElem?_toArray, List.getElem?_cons_zero] at hca; have HCA := Lib.hid hca; have HB1 := Lib.hid (below_step HB0.out hb1); clear hM1 hbox1 hb1 hca)
    | ((with_reducible refine gate_dst (N := 7) rfl ?_); refine box_event ?hg (N := 7) ?hd (cs := #[.int .i64 t]) (t := 2) ?hr ?_; (case hd => rfl); (case hg => rfl); (case hr => first | (go_simp; done) | (go_simp; rfl)); intro M2 hM2 W2 hbox2 hb2; have hcb := Go.Joins.cell_of_block hbox2 0; simp only [List.getElem?_toArray, List.getElem?_cons_zero] at hcb; have HCAP : Hid (Cap W2 M1 M2 A2 c2 x t) := Lib.hid ⟨cell_below HCA.out hb2, hcb⟩; have hca := HCAP.out.1; have HB2 := Lib.hid (below_step HB1.out hb2); clear hM2 hbox2 hb2)
    | (go_at_call 34; (with_reducible refine (HLC.out _ _ ?pc ?pb).mono ?_); (case pc => rw [Go.Joins.cell_of_block (cs := #[.slice A2 x.length c2]) (t := 42) (fr := (0, 0)) (by simp only [World.alloc]; exact Array.getElem?_push_size)]; rfl); (case pb => exact below_alloc HB2.out _); rintro e W4 ⟨rfl, hb4⟩; have HB4 := Lib.hid (below_step (below_alloc HB2.out _) hb4); have HCAP4 := Lib.hid (cap_below (cap_below HCAP.out (below_alloc (Below.refl _ _) _)) hb4); clear hb4 hca hcb HCA HB1 HB2 HCAP; refine Hid.out ?_))
  refine Lib.hid ?_
  go_wp2
  exact bodyPost_ret (v := .tuple #[.slice none 0 0, .int .i64 c]) (by simp [results, Try.results28, go_sem]) rfl ⟨_, rfl, Kd.R_nil _ _ _ _ _, HB4.out⟩
theorem within7_calls (t : Int) (r : Bool) (h : decide (0 ≤ t ∧ t ≤ 7) = r) (w : World) : Calls Try.prog 42 #[.int .i64 t, .int .i64 0, .int .i64 7] w fun e w' => e = .returned (.bool r) ∧ w' = w := by
  by_cases h1 : 0 ≤ t
  · by_cases h2 : t ≤ 7
    · rw [decide_eq_true ⟨h1, h2⟩] at h
      subst h
      go_enter Try.func42, Try.ntmps42
      go_wp2
      go_ret
      exact ⟨rfl, rfl⟩
    · rw [decide_eq_false (fun h => h2 h.2)] at h
      subst h
      have h3 : 7 < t := by omega
      have h4 : decide (t ≤ 7) = false := decide_eq_false h2
      clear h2
      go_enter Try.func42, Try.ntmps42
      go_wp2
      go_ret
      exact ⟨rfl, rfl⟩
  · rw [decide_eq_false (fun h => h1 h.1)] at h
    subst h
    have h3 : t < 0 := by omega
    clear h1
    go_enter Try.func42, Try.ntmps42
    go_wp2
    go_ret
    exact ⟨rfl, rfl⟩
set_option maxHeartbeats 2000000 in
set_option maxRecDepth 100000 in
theorem rep_range (b : Int) (A1 : Option Addr) (c1 : Nat) (l : List (List Int)) (A2 : Option Addr) (c2 : Nat) (x : List Int) (t : Int) (w : World) (hr1 : Kd.C (Kd.slice 64 (Kd.int .u16)) w A1 l.length l) (hc1 : l.length ≤ c1) (hr2 : Kd.C (Kd.int .u16) w A2 x.length x) (hc2 : x.length ≤ c2) (hl : l.length ≤ 1048576) (hc : listW b l [x] = 0) (ht : ¬ (0 ≤ t ∧ t ≤ 7)) : Calls Try.prog 28 #[.int .i64 b, .slice A1 l.length c1, .slice A2 x.length c2, .int .i64 t] w fun e w' => ∃ v, e = .returned (.tuple #[v, .int .i64 (repR b l x t).2]) ∧ Kd.R (Kd.int .u16) 64 w' w.heap.size (fun _ => True) v (repR b l x t).1 ∧ Below w.heap.size w w' := by
  have HLC : Hid (∀ (W : World) (g : Nat), W.cell? ⟨g, 0, none⟩ = some (.slice A2 x.length c2) → Below w.heap.size w W → Calls Try.prog 34 #[.int .i64 b, .slice A1 l.length c1, .slice (some ⟨g, 0, none⟩) 1 1] W fun e w' => e = .returned (.int .i64 (listW b l [x])) ∧ Below W.heap.size W w') := Lib.hid (fun W g hc hb => impl_listCode.calls b A1 c1 l (some ⟨g, 0, none⟩) 1 [x] _ W (Kd.C_below hr1 hb) hc1 (C_one hc hc2 (Kd.C_below hr2 hb)) (by simp) (by unfold impl_listCode.f; rw [if_pos ⟨hl, by simp⟩]))
  have hR : repR b l x t = ([], 2) := by unfold repR; rw [if_pos hc, if_neg ht]
  rw [hR]
  rw [hc] at HLC
  have HWI := fun w => Lib.hid (within7_calls t false (decide_eq_false ht) w)
  clear hr1 hc1 hr2 hc2 hl hc ht hR
  have HB0 : Hid (Below w.heap.size w w) := Lib.hid (Below.refl _ _)
  go_enter Try.func28, Try.ntmps28
  go_wp2_with (first
    | ((with_reducible refine gate_dst (N := 6) rfl ?_); refine box_event ?hg (N := 6) ?hd (cs := #[.slice A2 x.length c2]) (t := 42) ?hr ?_; (case hd => rfl); (case hg => rfl); (case hr => first | (go_simp; done) | (go_simp; rfl)); intro M1 hM1 W1 hbox1 hb1; have hca := Go.Joins.cell_of_block hbox1 0; simp only [List.getElem?_toArray, List.getElem?_cons_zero] at hca; have HCA := Lib.hid hca; have HB1 := Lib.hid (below_step HB0.out hb1); clear hM1 hbox1 hb1 hca)
    | ((with_reducible refine gate_dst (N := 7) rfl ?_); refine box_event ?hg (N := 7) ?hd (cs := #[.int .i64 t]) (t := 2) ?hr ?_; (case hd => rfl); (case hg => rfl); (case hr => first | (go_simp; done) | (go_simp; rfl)); intro M2 hM2 W2 hbox2 hb2; have hcb := Go.Joins.cell_of_block hbox2 0; simp only [List.getElem?_toArray, List.getElem?_cons_zero] at hcb; have HCAP : Hid (Cap W2 M1 M2 A2 c2 x t) := Lib.hid ⟨cell_below HCA.out hb2, hcb⟩; have hca := HCAP.out.1; have HB2 := Lib.hid (below_step HB1.out hb2); clear hM2 hbox2 hb2)
    | (go_at_call 34; (with_reducible refine (HLC.out _ _ ?pc ?pb).mono ?_); (case pc => rw [Go.Joins.cell_of_block (cs := #[.slice A2 x.length c2]) (t := 42) (fr := (0, 0)) (by simp only [World.alloc]; exact Array.getElem?_push_size)]; rfl); (case pb => exact below_alloc HB2.out _); rintro e W4 ⟨rfl, hb4⟩; have HB4 := Lib.hid (below_step (below_alloc HB2.out _) hb4); have HCAP4 := Lib.hid (cap_below (cap_below HCAP.out (below_alloc (Below.refl _ _) _)) hb4); clear hb4 hca hcb HCA HB1 HB2 HCAP; refine Hid.out ?_))
  refine Lib.hid ?_
  have hca := HCAP4.out.1
  have hcb := HCAP4.out.2
  go_wp2_with (first
    | (go_at_call 42; (with_reducible refine (HWI _).out.mono ?_); rintro e w' ⟨rfl, hw_⟩; have hw2_ := hw_.symm; clear hw_; subst hw2_))
  exact bodyPost_ret (v := .tuple #[.slice none 0 0, .int .i64 2]) (by simp [results, Try.results28, go_sem]) rfl ⟨_, rfl, Kd.R_nil _ _ _ _ _, HB4.out⟩
set_option maxHeartbeats 2000000 in
set_option maxRecDepth 100000 in
theorem rep_ok (b : Int) (A1 : Option Addr) (c1 : Nat) (l : List (List Int)) (A2 : Option Addr) (c2 : Nat) (x : List Int) (t : Int) (w : World) (hr1 : Kd.C (Kd.slice 64 (Kd.int .u16)) w A1 l.length l) (hc1 : l.length ≤ c1) (hr2 : Kd.C (Kd.int .u16) w A2 x.length x) (hc2 : x.length ≤ c2) (hl : l.length ≤ 1048576) (hc : listW b l [x] = 0) (ht : 0 ≤ t ∧ t ≤ 7) : Calls Try.prog 28 #[.int .i64 b, .slice A1 l.length c1, .slice A2 x.length c2, .int .i64 t] w fun e w' => ∃ v, e = .returned (.tuple #[v, .int .i64 (repR b l x t).2]) ∧ Kd.R (Kd.int .u16) 64 w' w.heap.size (fun _ => True) v (repR b l x t).1 ∧ Below w.heap.size w w' := by
  have HLC : Hid (∀ (W : World) (g : Nat), W.cell? ⟨g, 0, none⟩ = some (.slice A2 x.length c2) → Below w.heap.size w W → Calls Try.prog 34 #[.int .i64 b, .slice A1 l.length c1, .slice (some ⟨g, 0, none⟩) 1 1] W fun e w' => e = .returned (.int .i64 (listW b l [x])) ∧ Below W.heap.size W w') := Lib.hid (fun W g hc hb => impl_listCode.calls b A1 c1 l (some ⟨g, 0, none⟩) 1 [x] _ W (Kd.C_below hr1 hb) hc1 (C_one hc hc2 (Kd.C_below hr2 hb)) (by simp) (by unfold impl_listCode.f; rw [if_pos ⟨hl, by simp⟩]))
  rw [hc] at HLC
  obtain ⟨h3, h7, hlen⟩ := listW_word hc
  have HWI := fun w => Lib.hid (within7_calls t true (decide_eq_true ht) w)
  have HCL : Hid (∀ (Wb : World), Below w.heap.size w Wb → ∀ M1 M2, Cap Wb M1 M2 A2 c2 x t → ∀ (W : World) (A' : Option Addr) (c' : Nat) (y : List Int), Below Wb.heap.size Wb W → y ∈ l → y.length ≤ c' → Kd.C (Kd.int .u16) Wb A' y.length y → Calls Try.prog 57 #[.slice A' y.length c', .pointer (some ⟨M1, 0, none⟩), .pointer (some ⟨M2, 0, none⟩)] W fun e w' => e = .returned (.bool (far t x y)) ∧ Below W.heap.size W w') := Lib.hid (fun Wb hwb M1 M2 hcap W A' c' y hW hy hcy hry => far_calls t A' c' y A2 c2 x M1 M2 W (cap_below hcap hW) (Kd.C_below hry hW) hcy (Kd.C_below (Kd.C_below hr2 hwb) hW) hc2 (hlen y hy) (by rw [hlen y hy]; omega))
  have HCW : Hid (∀ W, Below w.heap.size w W → Calls Try.prog 56 #[.slice A1 l.length c1] W fun e w' => ∃ v0_ : Value, e = .returned v0_ ∧ Kd.R (Kd.fixed dW W) 42 w' W.heap.size (fun _ => True) v0_ l ∧ Below W.heap.size W w') := Lib.hid (fun W hW => cloneW_calls A1 c1 l W W (Below.refl _ _) (Kd.C_below hr1 hW) hc1 hl)
  have HL7 : Hid (∀ y ∈ l, y.length ≤ 7) := Lib.hid (fun y hy => by rw [hlen y hy]; exact h7)
  have hR : repR b l x t = repF (l.filter (fun y => !far t x y)) := by unfold repR; rw [if_pos hc, if_pos ht]; rfl
  rw [hR]
  have H300 := Lib.hid h3
  obtain ⟨F, hF⟩ : ∃ F, l.filter (fun y => !far t x y) = F := ⟨_, rfl⟩
  rw [hF]
  have HF := Lib.hid hF
  obtain ⟨rr, hrr⟩ : ∃ rr, repF F = rr := ⟨_, rfl⟩
  rw [hrr]
  have HRP := Lib.hid hrr
  clear hr1 hc1 hr2 hc2 hl hc ht hR hlen h3 h7 hF hrr
  have HB0 : Hid (Below w.heap.size w w) := Lib.hid (Below.refl _ _)
  go_enter Try.func28, Try.ntmps28
  go_wp2_with (first
    | ((with_reducible refine gate_dst (N := 6) rfl ?_); refine box_event ?hg (N := 6) ?hd (cs := #[.slice A2 x.length c2]) (t := 42) ?hr ?_; (case hd => rfl); (case hg => rfl); (case hr => first | (go_simp; done) | (go_simp; rfl)); intro M1 hM1 W1 hbox1 hb1; have hca := Go.Joins.cell_of_block hbox1 0; simp only [List.getElem?_toArray, List.getElem?_cons_zero] at hca; have HCA := Lib.hid hca; have HB1 := Lib.hid (below_step HB0.out hb1); clear hM1 hbox1 hb1 hca)
    | ((with_reducible refine gate_dst (N := 7) rfl ?_); refine box_event ?hg (N := 7) ?hd (cs := #[.int .i64 t]) (t := 2) ?hr ?_; (case hd => rfl); (case hg => rfl); (case hr => first | (go_simp; done) | (go_simp; rfl)); intro M2 hM2 W2 hbox2 hb2; have hcb := Go.Joins.cell_of_block hbox2 0; simp only [List.getElem?_toArray, List.getElem?_cons_zero] at hcb; have HCAP : Hid (Cap W2 M1 M2 A2 c2 x t) := Lib.hid ⟨cell_below HCA.out hb2, hcb⟩; have hca := HCAP.out.1; have HB2 := Lib.hid (below_step HB1.out hb2); clear hM2 hbox2 hb2)
    | (go_at_call 34; (with_reducible refine (HLC.out _ _ ?pc ?pb).mono ?_); (case pc => rw [Go.Joins.cell_of_block (cs := #[.slice A2 x.length c2]) (t := 42) (fr := (0, 0)) (by simp only [World.alloc]; exact Array.getElem?_push_size)]; rfl); (case pb => exact below_alloc HB2.out _); rintro e W4 ⟨rfl, hb4⟩; have HB4 := Lib.hid (below_step (below_alloc HB2.out _) hb4); have HCAP4 := Lib.hid (cap_below (cap_below HCAP.out (below_alloc (Below.refl _ _) _)) hb4); clear hb4 hca hcb HCA HB1 HB2 HCAP; refine Hid.out ?_))
  refine Lib.hid ?_
  have hca := HCAP4.out.1
  have hcb := HCAP4.out.2
  go_wp2_with (first
    | (go_at_call 42; (with_reducible refine (HWI _).out.mono ?_); rintro e w' ⟨rfl, hw_⟩; have hw2_ := hw_.symm; clear hw_; subst hw2_)
    | (go_at_call 56; (with_reducible refine (HCW.out _ HB4.out).mono ?_); rintro e W5 ⟨v0, rfl, hr5, hb5⟩; have HR5 := Lib.hid hr5; have HB5 := Lib.hid hb5; clear hr5 hb5; refine Hid.out ?_))
  refine Lib.hid ?_
  clear hca hcb
  by_cases h0 : l.length = 0
  · have hl0 : l = [] := List.eq_nil_of_length_eq_zero h0
    have HE : Hid (F = []) := Lib.hid (by rw [← HF.out, hl0]; rfl)
    obtain ⟨A5, c5, ev⟩ := Kd.R_slice HR5.out
    rw [h0] at ev
    subst ev
    have HD := fun W => Lib.hid (delete_nil M1 M2 A5 c5 W)
    clear hl0 h0 HR5 HF
    go_wp2_with (first
      | (go_at_call 55; (with_reducible refine (HD _).out.mono ?_); rintro e w' ⟨rfl, hw_⟩; have hw2_ := hw_.symm; clear hw_; subst hw2_))
    rw [← HRP.out, HE.out]
    exact bodyPost_ret (v := .tuple #[.slice none 0 0, .int .i64 6]) (by simp [results, Try.results28, go_sem]) rfl ⟨_, rfl, Kd.R_nil _ _ _ _ _, below_step HB4.out HB5.out⟩
  · obtain ⟨g, cap, ev, hg, hgl, cells, hcl⟩ := Kd.R_form HR5.out (by omega)
    subst ev
    have hrd := Kd.R_reads' HR5.out
    have hrow := fixed_row hrd.2.2 hcl
    have hes : l.length ≤ cells.toList.length := by
      obtain ⟨v, hv, _⟩ := hrow (l.length - 1) (by omega)
      have : l.length - 1 < cells.toList.length := by
        rcases Nat.lt_or_ge (l.length - 1) cells.toList.length with h' | h'
        · exact h'
        · rw [List.getElem?_eq_none h'] at hv; cases hv
      omega
    have hdel := delete_calls (far t x) M1 M2 W4 g cap cells.toList l W5 (HCL.out W4 HB4.out M1 M2 HCAP4.out) hg HB5.out hcl hrow (by have := H300.out; omega) hrd.2.1 hes
    rw [HF.out] at hdel
    have HD := Lib.hid hdel
    have HFL : Hid (∀ y ∈ F, y.length ≤ 7) := Lib.hid (fun y hy => HL7.out y (by rw [← HF.out] at hy; exact (List.mem_filter.1 hy).1))
    clear hdel hrd hrow hes hg hgl hcl h0 HR5 HF
    go_wp2_with (first
      | (go_at_call 55; (with_reducible refine HD.out.mono ?_); rintro e W6 ⟨rfl, hb6, hcs⟩; have HB6 := Lib.hid (below_step HB4.out hb6); have HB6' := Lib.hid hb6; have HCS := Lib.hid hcs; clear hb6 hcs; refine Hid.out ?_))
    refine Lib.hid ?_
    match F, HCS, HFL, HRP with
    | [], HCS, HFL, HRP =>
      clear HCS HFL
      go_wp2
      rw [← HRP.out]
      exact bodyPost_ret (v := .tuple #[.slice none 0 0, .int .i64 6]) (by simp [results, Try.results28, go_sem]) rfl ⟨_, rfl, Kd.R_nil _ _ _ _ _, HB6.out⟩
    | [y], HCS, HFL, HRP =>
      obtain ⟨v, hcv, A', c', rfl, hcy, hry⟩ := HCS.out 0 (by simp)
      have HCY : Hid (∀ W, Below W6.heap.size W6 W → Calls Try.prog 58 #[.slice A' y.length c'] W fun e w' => ∃ v0_ : Value, e = .returned v0_ ∧ Kd.R (Kd.int .u16) 64 w' W.heap.size (fun _ => True) v0_ y ∧ Below W.heap.size W w') := Lib.hid (fun W hW => clone_calls A' c' y y W (Kd.C_below (Kd.C_below hry HB6'.out) hW) hcy (by unfold cloneL; rw [if_pos (by have := HFL.out y (by simp); omega)]))
      have hcv2 : W6.cell? ⟨g, 0, none⟩ = some (.slice A' y.length c') := hcv
      clear hcv hcy hry HCS HFL
      go_wp2_with (first
        | (go_at_call 58; (with_reducible refine (HCY.out _ (Below.refl _ _)).mono ?_); rintro e W7 ⟨v7, rfl, hr7, hb7⟩; have HR7 := Lib.hid hr7; have HB7 := Lib.hid hb7; clear hr7 hb7))
      rw [← HRP.out]
      exact bodyPost_ret (v := .tuple #[v7, .int .i64 0]) (by simp [results, Try.results28, go_sem]) rfl ⟨_, rfl, Kd.R_lower HR7.out (below_size HB6.out), below_step HB6.out HB7.out⟩
    | y :: z :: F2, HCS, HFL, HRP =>
      have hq0 : (((y :: z :: F2).length : Int) == 0) = false := beq_eq_false_iff_ne.2 (by simp only [List.length_cons]; omega)
      have hq1 : (((y :: z :: F2).length : Int) == 1) = false := beq_eq_false_iff_ne.2 (by simp only [List.length_cons]; omega)
      obtain ⟨q, hq⟩ : ∃ q, (y :: z :: F2).length = q := ⟨_, rfl⟩
      rw [hq] at hq0 hq1 ⊢
      clear HCS HFL hq
      go_wp2
      rw [← HRP.out]
      exact bodyPost_ret (v := .tuple #[.slice none 0 0, .int .i64 8]) (by simp [results, Try.results28, go_sem]) rfl ⟨_, rfl, Kd.R_nil _ _ _ _ _, HB6.out⟩
theorem rep_calls (b : Int) (A1 : Option Addr) (c1 : Nat) (l : List (List Int)) (A2 : Option Addr) (c2 : Nat) (x : List Int) (t : Int) (w : World) (hr1 : Kd.C (Kd.slice 64 (Kd.int .u16)) w A1 l.length l) (hc1 : l.length ≤ c1) (hr2 : Kd.C (Kd.int .u16) w A2 x.length x) (hc2 : x.length ≤ c2) (hl : l.length ≤ 1048576) : Calls Try.prog 28 #[.int .i64 b, .slice A1 l.length c1, .slice A2 x.length c2, .int .i64 t] w fun e w' => ∃ v, e = .returned (.tuple #[v, .int .i64 (repR b l x t).2]) ∧ Kd.R (Kd.int .u16) 64 w' w.heap.size (fun _ => True) v (repR b l x t).1 ∧ Below w.heap.size w w' := by
  by_cases hc : listW b l [x] = 0
  · by_cases ht : 0 ≤ t ∧ t ≤ 7
    · exact rep_ok b A1 c1 l A2 c2 x t w hr1 hc1 hr2 hc2 hl hc ht
    · exact rep_range b A1 c1 l A2 c2 x t w hr1 hc1 hr2 hc2 hl hc ht
  · exact rep_code b A1 c1 l A2 c2 x t w hr1 hc1 hr2 hc2 hl hc

end Go.Proofs.Ytabdpdnofljkcaa.Given
