/- The greedy code, as the program makes it: walked. -/
import Derived.Test.YtabdpdnofljkcaaProg
import Derived.Below
import Derived.Deep.Draws
import Derived.Deep.AppendLies
import Derived.Maps.AppendAt
import Derived.OwnWalk
import Derived.Laws.BytesArg
import Derived.Laws.MakeOwn
import Derived.Laws.OwnMore
import Derived.Deep.OwnRows
import Derived.Tactics
import Derived.Lib.ConvBytes
import Derived.Laws.Slices
import Derived.WalkKit
import Derived.KernelRfl
import Derived.RowKit3
import Derived.Deep.LoopGhost
import Derived.Deep.QuietTactic
import Derived.BigQuiet
import Derived.WideLaws
import Derived.Deep.DeepCutAuto
import Derived.Deep.CutBlock
import Derived.Deep.RegionHeld3
import Derived.Laws.Rows
import Derived.Lib.AppendStr
import Derived.ArgAppend
import Derived.Laws.IdiomCopy
import Derived.OrdersHeld
import Derived.Laws.BitsLemmas
import Derived.RowKit
import Derived.Lib.Hide
import Derived.WalkSpells
import Derived.Test.YtabdpdnofljkcaaWWords
import Derived.Test.YtabdpdnofljkcaaWLast
import Derived.Test.YtabdpdnofljkcaaWTab
import Derived.Test.YtabdpdnofljkcaaWFour
import Derived.Test.YtabdpdnofljkcaaWQPut
import Derived.Test.YtabdpdnofljkcaaWApart
import Derived.Test.YtabdpdnofljkcaaWArr
import Derived.Test.YtabdpdnofljkcaaWZeros
import Derived.Test.YtabdpdnofljkcaaWFoot
import Derived.Test.YtabdpdnofljkcaaWKept
import Derived.Test.YtabdpdnofljkcaaWShare
import Derived.Test.YtabdpdnofljkcaaWN
import Derived.Test.YtabdpdnofljkcaaWFootNe
import Derived.Test.YtabdpdnofljkcaaWAt
import Derived.Test.YtabdpdnofljkcaaWEqStruct
import Derived.Test.YtabdpdnofljkcaaWRepsOne
import Derived.Test.YtabdpdnofljkcaaWInv
import Derived.Test.YtabdpdnofljkcaaWInvWords
import Derived.Test.YtabdpdnofljkcaaWGuard
import Derived.Test.YtabdpdnofljkcaaWNEv
import Derived.Test.YtabdpdnofljkcaaWMore
import Derived.Test.YtabdpdnofljkcaaN1
import Derived.Test.YtabdpdnofljkcaaGB
import Derived.Lib.SmallJoins
namespace Go.Proofs.Ytabdpdnofljkcaa.Given
open Go.RowKit Go.Proofs.YtabdpdnofljkcaaW.PrintWords Go.Proofs.YtabdpdnofljkcaaW.PrintLast Go.Proofs.YtabdpdnofljkcaaW.PrintMore Go.Proofs.Ytabdpdnofljkcaa.NimF Go.Proofs.Ytabdpdnofljkcaa.NimGo
set_option linter.unusedVariables false
set_option linter.unusedSimpArgs false
open Go.Proofs.Ytabdpdnofljkcaa.PFnExactGreedyCode Go.Proofs.Ytabdpdnofljkcaa.RAPT
theorem lt_of_heap {w : World} {g : Nat} {o : Obj} (h : w.heap[g]? = some o) : g < w.heap.size := by
  rcases Nat.lt_or_ge g w.heap.size with h' | h'
  · exact h'
  · rw [Array.getElem?_eq_none h'] at h; cases h
theorem i42 : (Try.prog.info? 42).map (fun i => (i.zero, i.size, i.bytes)) = some (some (.slice none 0 0), 1, 24) := by kernel_rfl
theorem isBase_calls (b : Int) (r : Bool) (h : isB b = r) (w : World) : Calls Try.prog 41 #[.int .i64 b] w fun e w' => e = .returned (.bool r) ∧ Drawn0 w w' := impl_isBase.calls b r w (by rw [ibase, h])
theorem within_calls (x y z : Int) (r : Bool) (h : decide (y ≤ x ∧ x ≤ z) = r) (w : World) : Calls Try.prog 42 #[.int .i64 x, .int .i64 y, .int .i64 z] w fun e w' => e = .returned (.bool r) ∧ Drawn0 w w' := impl_within.calls x y z r w (by rw [iin, h])
theorem howMany_calls (b : Int) (n : Nat) (hn : n ≤ 7) (w : World) : Calls Try.prog 43 #[.int .i64 b, .int .i64 (n : Int)] w fun e w' => e = .returned (.int .i64 (mulN b n 1)) ∧ Drawn0 w w' := by
  obtain ⟨K, hK⟩ := iall b n (by omega) n 0 1 (by omega)
  exact impl_howMany.calls K b (n : Int) _ w (hK K (Nat.le_refl _))
theorem atPlace_calls (b : Int) (hb : b ≠ 0) (n p : Nat) (hn : n ≤ 7) (w : World) : Calls Try.prog 44 #[.int .i64 b, .int .i64 (n : Int), .int .i64 (p : Int)] w fun e w' => ∃ v0_ : Value, e = .returned v0_ ∧ Kd.R (Kd.int .u16) 64 w' w.heap.size (fun _ => True) v0_ (wordAt b n p) ∧ Below w.heap.size w w' := by
  obtain ⟨K, hK⟩ := iat_ev b (p : Int) n hb (by omega)
  exact impl_atPlace.calls K b (n : Int) (p : Int) _ w (hK K (Nat.le_refl _))
set_option maxHeartbeats 2000000 in
set_option maxRecDepth 100000 in
theorem greedy_no1 (b len a : Int) (h1 : isB b = false) (hno : ¬ (isB b = true ∧ (1 ≤ len ∧ len ≤ 7) ∧ (1 ≤ a ∧ a ≤ len))) (w : World) : Calls Try.prog 16 #[.int .i64 b, .int .i64 len, .int .i64 a] w fun e w' => ∃ v, e = .returned (.tuple #[v, .int .i64 (greedy b len a).2]) ∧ Kd.S (Kd.slice 64 (Kd.int .u16)) 42 w' w.heap.size (fun _ => True) v (greedy b len a).1 ∧ Below w.heap.size w w' := by
  have HB0 := fun W => Lib.hid (isBase_calls b false h1 W)
  have HL0 := fun W => Lib.hid (within_calls len 1 7 (decide (1 ≤ len ∧ len ≤ 7)) rfl W)
  have HA0 := fun W => Lib.hid (within_calls a 1 len (decide (1 ≤ a ∧ a ≤ len)) rfl W)
  have hg : greedy b len a = ([], 2) := by unfold greedy; exact if_neg hno
  rw [hg]
  clear hg hno
  go_enter Try.func16, Try.ntmps16
  go_wp2_with (first
    | (go_at_call 41; (with_reducible refine (HB0 _).out.mono ?_); rintro e w' ⟨rfl, ⟨nd, rfl⟩⟩)
    | (go_at_call 42; (with_reducible refine (HL0 _).out.mono ?_); rintro e w' ⟨rfl, ⟨nd1, rfl⟩⟩)
    | (go_at_call 42; (with_reducible refine (HA0 _).out.mono ?_); rintro e w' ⟨rfl, ⟨nd2, rfl⟩⟩))
  exact bodyPost_ret (v := .tuple #[.slice none 0 0, .int .i64 2]) (by simp [results, Try.results16, go_sem]) rfl ⟨_, rfl, Kd.S_nil _ _ _ _ _, by repeat (first | apply below_alloc | apply pw_below_drewN | exact Below.refl _ _)⟩
set_option maxHeartbeats 2000000 in
set_option maxRecDepth 100000 in
theorem greedy_no2 (b len a : Int) (h1 : isB b = true) (h2 : ¬ (1 ≤ len ∧ len ≤ 7)) (hno : ¬ (isB b = true ∧ (1 ≤ len ∧ len ≤ 7) ∧ (1 ≤ a ∧ a ≤ len))) (w : World) : Calls Try.prog 16 #[.int .i64 b, .int .i64 len, .int .i64 a] w fun e w' => ∃ v, e = .returned (.tuple #[v, .int .i64 (greedy b len a).2]) ∧ Kd.S (Kd.slice 64 (Kd.int .u16)) 42 w' w.heap.size (fun _ => True) v (greedy b len a).1 ∧ Below w.heap.size w w' := by
  have HB0 := fun W => Lib.hid (isBase_calls b true h1 W)
  have HL0 := fun W => Lib.hid (within_calls len 1 7 false (decide_eq_false h2) W)
  have HA0 := fun W => Lib.hid (within_calls a 1 len (decide (1 ≤ a ∧ a ≤ len)) rfl W)
  have hg : greedy b len a = ([], 2) := by unfold greedy; exact if_neg hno
  rw [hg]
  clear hg hno
  go_enter Try.func16, Try.ntmps16
  go_wp2_with (first
    | (go_at_call 41; (with_reducible refine (HB0 _).out.mono ?_); rintro e w' ⟨rfl, ⟨nd, rfl⟩⟩)
    | (go_at_call 42; (with_reducible refine (HL0 _).out.mono ?_); rintro e w' ⟨rfl, ⟨nd1, rfl⟩⟩)
    | (go_at_call 42; (with_reducible refine (HA0 _).out.mono ?_); rintro e w' ⟨rfl, ⟨nd2, rfl⟩⟩))
  exact bodyPost_ret (v := .tuple #[.slice none 0 0, .int .i64 2]) (by simp [results, Try.results16, go_sem]) rfl ⟨_, rfl, Kd.S_nil _ _ _ _ _, by repeat (first | apply below_alloc | apply pw_below_drewN | exact Below.refl _ _)⟩
set_option maxHeartbeats 2000000 in
set_option maxRecDepth 100000 in
theorem greedy_no3 (b len a : Int) (h1 : isB b = true) (h2 : 1 ≤ len ∧ len ≤ 7) (h3 : ¬ (1 ≤ a ∧ a ≤ len)) (hno : ¬ (isB b = true ∧ (1 ≤ len ∧ len ≤ 7) ∧ (1 ≤ a ∧ a ≤ len))) (w : World) : Calls Try.prog 16 #[.int .i64 b, .int .i64 len, .int .i64 a] w fun e w' => ∃ v, e = .returned (.tuple #[v, .int .i64 (greedy b len a).2]) ∧ Kd.S (Kd.slice 64 (Kd.int .u16)) 42 w' w.heap.size (fun _ => True) v (greedy b len a).1 ∧ Below w.heap.size w w' := by
  have HB0 := fun W => Lib.hid (isBase_calls b true h1 W)
  have HL0 := fun W => Lib.hid (within_calls len 1 7 true (decide_eq_true h2) W)
  have HA0 := fun W => Lib.hid (within_calls a 1 len false (decide_eq_false h3) W)
  have hg : greedy b len a = ([], 2) := by unfold greedy; exact if_neg hno
  rw [hg]
  clear hg hno
  go_enter Try.func16, Try.ntmps16
  go_wp2_with (first
    | (go_at_call 41; (with_reducible refine (HB0 _).out.mono ?_); rintro e w' ⟨rfl, ⟨nd, rfl⟩⟩)
    | (go_at_call 42; (with_reducible refine (HL0 _).out.mono ?_); rintro e w' ⟨rfl, ⟨nd1, rfl⟩⟩)
    | (go_at_call 42; (with_reducible refine (HA0 _).out.mono ?_); rintro e w' ⟨rfl, ⟨nd2, rfl⟩⟩))
  exact bodyPost_ret (v := .tuple #[.slice none 0 0, .int .i64 2]) (by simp [results, Try.results16, go_sem]) rfl ⟨_, rfl, Kd.S_nil _ _ _ _ _, by repeat (first | apply below_alloc | apply pw_below_drewN | exact Below.refl _ _)⟩
set_option maxHeartbeats 2000000 in
set_option maxRecDepth 100000 in
theorem greedy_far (b a : Int) (n N : Nat) (h1 : isB b = true) (h2 : 1 ≤ (n : Int) ∧ (n : Int) ≤ 7) (h3 : 1 ≤ a ∧ a ≤ (n : Int)) (hN : mulN b n 1 = (N : Int)) (h5 : (5000 : Int) < (N : Int)) (w : World) : Calls Try.prog 16 #[.int .i64 b, .int .i64 (n : Int), .int .i64 a] w fun e w' => ∃ v, e = .returned (.tuple #[v, .int .i64 (greedy b (n : Int) a).2]) ∧ Kd.S (Kd.slice 64 (Kd.int .u16)) 42 w' w.heap.size (fun _ => True) v (greedy b (n : Int) a).1 ∧ Below w.heap.size w w' := by
  have HB0 := fun W => Lib.hid (isBase_calls b true h1 W)
  have HL0 := fun W => Lib.hid (within_calls (n : Int) 1 7 true (decide_eq_true h2) W)
  have HA0 := fun W => Lib.hid (within_calls a 1 (n : Int) true (decide_eq_true h3) W)
  have hm := fun W => howMany_calls b n (by omega) W
  rw [hN] at hm
  have HM0 := fun W => Lib.hid (hm W)
  clear hm
  have hg : greedy b (n : Int) a = ([], 3) := by unfold greedy; rw [if_pos ⟨h1, h2, h3⟩, Int.toNat_natCast, hN, if_pos h5]
  rw [hg]
  clear hg hN h1 h2 h3
  go_enter Try.func16, Try.ntmps16
  go_wp2_with (first
    | (go_at_call 41; (with_reducible refine (HB0 _).out.mono ?_); rintro e w' ⟨rfl, ⟨nd, rfl⟩⟩)
    | (go_at_call 42; (with_reducible refine (HL0 _).out.mono ?_); rintro e w' ⟨rfl, ⟨nd1, rfl⟩⟩)
    | (go_at_call 42; (with_reducible refine (HA0 _).out.mono ?_); rintro e w' ⟨rfl, ⟨nd2, rfl⟩⟩)
    | (go_at_call 43; (with_reducible refine (HM0 _).out.mono ?_); rintro e w' ⟨rfl, ⟨nd3, rfl⟩⟩)
    | fail)
  exact bodyPost_ret (v := .tuple #[.slice none 0 0, .int .i64 3]) (by simp [results, Try.results16, go_sem]) rfl ⟨_, rfl, Kd.S_nil _ _ _ _ _, by repeat (first | apply below_alloc | apply pw_below_drewN | exact Below.refl _ _)⟩
set_option maxHeartbeats 4000000 in
set_option maxRecDepth 100000 in
theorem greedy_all (b a : Int) (n N : Nat) (h1 : isB b = true) (h2 : 1 ≤ (n : Int) ∧ (n : Int) ≤ 7) (h3 : 1 ≤ a ∧ a ≤ (n : Int)) (hN : mulN b n 1 = (N : Int)) (h5 : (N : Int) ≤ 5000) (w : World) : Calls Try.prog 16 #[.int .i64 b, .int .i64 (n : Int), .int .i64 a] w fun e w' => ∃ v, e = .returned (.tuple #[v, .int .i64 (greedy b (n : Int) a).2]) ∧ Kd.S (Kd.slice 64 (Kd.int .u16)) 42 w' w.heap.size (fun _ => True) v (greedy b (n : Int) a).1 ∧ Below w.heap.size w w' := by
  have HB0 := fun W => Lib.hid (isBase_calls b true h1 W)
  have HL0 := fun W => Lib.hid (within_calls (n : Int) 1 7 true (decide_eq_true h2) W)
  have HA0 := fun W => Lib.hid (within_calls a 1 (n : Int) true (decide_eq_true h3) W)
  have hm := fun W => howMany_calls b n (by omega) W
  rw [hN] at hm
  have HM0 := fun W => Lib.hid (hm W)
  clear hm
  have HP0 := fun p W => Lib.hid (atPlace_calls b (by have := isB_cases h1; omega) n p (by omega) W)
  have hg : greedy b (n : Int) a = grd b a n N 0 [] := by unfold greedy; rw [if_pos ⟨h1, h2, h3⟩, Int.toNat_natCast, hN, if_neg (by omega), Int.toNat_natCast]
  rw [hg]
  obtain ⟨R, hR⟩ : ∃ R, grd b a n N 0 [] = R := ⟨_, rfl⟩
  rw [hR]
  have HR := Lib.hid hR
  have HN7 : Hid (n ≤ 7) := Lib.hid (by omega)
  have HN5 : Hid (N ≤ 5000) := Lib.hid (by omega)
  clear hg hN h1 h2 h3 hR
  go_enter Try.func16, Try.ntmps16
  go_wp2_with (first
    | ((with_reducible refine gate_dst (N := 5) rfl ?_); refine box_event ?hg (N := 5) ?hd (cs := #[.int .i64 a]) (t := 2) ?hr ?_; (case hd => rfl); (case hg => rfl); (case hr => first | (go_simp; done) | (go_simp; rfl)); intro M hM0 W0 hbox hb; have hca := Go.Joins.cell_of_block hbox 0; simp only [List.getElem?_toArray, List.getElem?_cons_zero] at hca; have HZ : Hid (W0.heap[M]? = some (.cells #[.int .i64 a] 2 (0, 0)) ∧ Below w.heap.size w W0 ∧ M < W0.heap.size) := Lib.hid ⟨hbox, hb, lt_of_heap hbox⟩; have HB : Hid (Below W0.heap.size W0 W0) := Lib.hid (Below.refl _ _); clear hM0 hbox hb)
    | (go_at_call 41; (with_reducible refine (HB0 _).out.mono ?_); rintro e w' ⟨rfl, ⟨nd, rfl⟩⟩)
    | (go_at_call 42; (with_reducible refine (HL0 _).out.mono ?_); rintro e w' ⟨rfl, ⟨nd1, rfl⟩⟩)
    | (go_at_call 42; (with_reducible refine (HA0 _).out.mono ?_); rintro e w' ⟨rfl, ⟨nd2, rfl⟩⟩)
    | (go_at_call 43; (with_reducible refine (HM0 _).out.mono ?_); rintro e w' ⟨rfl, ⟨nd3, rfl⟩⟩)
    | ((with_reducible refine gate_dst (N := 31) rfl ?_); refine Kd.S_lit (Kd.slice 64 (Kd.int .u16)) (w0 := W0) W0.heap.size 42 ?hg (N := 31) ?hd (xs := ([] : List (List Int))) (inner := []) (ok := fun _ => True) (okp := fun _ => True) ?hr ?hp (fun _ hk => hk) trivial (by repeat (first | (with_reducible first | exact HB.out | apply below_alloc | apply pw_below_drewN | apply below_drew1) | exact HB.out)) (by simp) (by simp) ?_; (case hd => rfl); (case hg => rfl); (case hr => first | (go_simp; done) | (go_simp; rfl)); (case hp => exact (Reps.none _ _)); intro v116 w11 ho12 hb hg_ hnew_; clear hg_ hnew_; clear HB; have HB := Lib.hid hb; have HO := Lib.hid ho12; clear hb ho12))
  go_loopg [8, 9, 10, 35] N (fun gg v8 v9 v10 v35 wr => ∃ (p : Nat) (out : List (List Int)), Hid (p ≤ N) ∧ Hid (N - p ≤ gg) ∧ v35 = .int .i64 (p : Int) ∧ Hid (Kd.S (Kd.slice 64 (Kd.int .u16)) 42 wr W0.heap.size (fun _ => True) v8 out) ∧ Hid (Below W0.heap.size W0 wr) ∧ Hid (grd b a n (N - p) p out = R) ∧ Hid (Ok n out) ∧ Hid (out.length ≤ 300))
  case atStart => exact ⟨0, [], Lib.hid (Nat.zero_le _), Lib.hid (Nat.sub_le _ _), rfl, Lib.hid (Kd.S_drewN HO.out _), Lib.hid (pw_below_drewN HB.out _), HR, Lib.hid (by intro x hx; cases hx), Lib.hid (by simp)⟩
  case round =>
    clear HO HB HR HB0 HL0 HA0 HM0 hca
    obtain ⟨p, out, hp, hg, rfl, HO, HB, HR, HOK, HLEN⟩ := hrel
    obtain ⟨A8, c8, e8⟩ := Kd.S_slice HO.out
    subst e8
    by_cases hlt : p < N
    · have HD : Hid (R = if out.any (near a (wordAt b n p)) then grd b a n (N - (p + 1)) (p + 1) out else if out.length = 300 then ([], 7) else grd b a n (N - (p + 1)) (p + 1) (out ++ [wordAt b n p])) := Lib.hid (by rw [← HR.out, show N - p = (N - (p + 1)) + 1 by omega]; rfl)
      have hb0 : decide ((p : Int) < (N : Int)) = true := decide_eq_true (by omega)
      have hnb : p < 9223372036854775807 := by have := HN5.out; omega
      have hp0 : (0 : Int) ≤ (p : Int) := by omega
      have HLX : Hid (∀ y ∈ out, (wordAt b n p).length = y.length) := Lib.hid (fun y hy => by rw [wordAt_length, (HOK.out y hy).1])
      have HLW : Hid ((wordAt b n p).length = n) := Lib.hid (wordAt_length b n p)
      have HOK2 := Lib.hid (Ok_snoc HOK.out b p)
      have HPP := fun W => HP0 p W
      have HLT := Lib.hid hlt
      have HCM : Hid (W0.cell? ⟨M, 0, none⟩ = some (.int .i64 a)) := Lib.hid (by rw [Go.Joins.cell_of_block HZ.out.1]; rfl)
      have hl3 : (out.length : Int) ≤ 300 := by have := HLEN.out; omega
      generalize wordAt b n p = x at HD HLX HLW HOK2 HPP
      clear HR hlt HP0 HOK
      have HK : Hid (∀ (A1 : Option Addr) (c1 : Nat) (W1 : World), Kd.R (Kd.int .u16) 64 W1 wr.heap.size (fun _ => True) (.slice A1 x.length c1) x → Below wr.heap.size wr W1 → Calls Try.prog 45 #[.slice A8 out.length c8, .func (.func 46) #[] #[.pointer (some ⟨W1.heap.size, 0, none⟩), .pointer (some ⟨M, 0, none⟩)]] (W1.alloc (.cells #[.slice A1 x.length c1] 42)) fun e w' => e = .returned (.bool (out.any (near a x))) ∧ Below (W1.alloc (.cells #[.slice A1 x.length c1] 42)).heap.size (W1.alloc (.cells #[.slice A1 x.length c1] 42)) w') := Lib.hid (fun A1 c1 W1 hr hb => by
        refine containsW_calls a A8 c8 out A1 c1 x W1.heap.size M _ ⟨?_, ?_⟩ (Kd.C_alloc (Kd.C_below (Kd.S_reads' HO.out).2.2 hb) _) (Kd.C_alloc (Kd.R_reads' hr).2.2 _) (Kd.R_reads' hr).2.1 HLX.out (by have := HLW.out; have := HN7.out; omega) (by have := HLEN.out; omega)
        · rw [Go.Joins.cell_of_block (cs := #[.slice A1 x.length c1]) (t := 42) (fr := (0, 0)) (by simp only [World.alloc]; exact Array.getElem?_push_size)]; rfl
        · exact cell_below HCM.out (below_alloc (below_step HB.out hb) _))
      cases hv : out.any (near a x) with
      | true =>
        rw [hv] at HK HD
        clear hv
        go_wp2_with (first
          | (go_at_call 44; (with_reducible refine (HPP _).out.mono ?_); rintro e W1 ⟨v0, rfl, hr, hb⟩; obtain ⟨A1, c1, ev⟩ := Kd.R_slice hr; subst ev; have HKW := Lib.hid (HK.out A1 c1 W1 hr hb); have HB1 := Lib.hid hb; clear hr hb)
          | (go_at_call 45; (with_reducible refine HKW.out.mono ?_); rintro e W3 ⟨rfl, hb3⟩; have HB3 := Lib.hid hb3; clear hb3))
        go_roundg (N - (p + 1))
        case measure => have := hg.out; have := HLT.out; omega
        case rel => exact ⟨p + 1, out, Lib.hid HLT.out, Lib.hid (Nat.le_refl _), by first | rfl | go_num, Lib.hid (Kd.S_below (Kd.S_alloc (Kd.S_below HO.out HB1.out) _) HB3.out), Lib.hid (below_step (below_alloc (below_step HB.out HB1.out) _) HB3.out), Lib.hid (by rw [HD.out]; exact (if_pos trivial).symm), Lib.hid (fun y hy => HOK2.out y (List.mem_append_left _ hy)), HLEN⟩
      | false =>
        rw [hv] at HK HD
        clear hv
        by_cases h300 : out.length = 300
        · have hd3 : (out.length : Int) = 300 := by omega
          have HE : Hid (R = ([], 7)) := Lib.hid (by rw [HD.out, if_neg (by simp), if_pos h300])
          clear h300
          go_wp2_with (first
            | (go_at_call 44; (with_reducible refine (HPP _).out.mono ?_); rintro e W1 ⟨v0, rfl, hr, hb⟩; obtain ⟨A1, c1, ev⟩ := Kd.R_slice hr; subst ev; have HKW := Lib.hid (HK.out A1 c1 W1 hr hb); have HB1 := Lib.hid hb; clear hr hb)
            | (go_at_call 45; (with_reducible refine HKW.out.mono ?_); rintro e W3 ⟨rfl, hb3⟩; have HB3 := Lib.hid hb3; clear hb3))
          rw [HE.out]
          exact bodyPost_ret (v := .tuple #[.slice none 0 0, .int .i64 7]) (by simp [results, Try.results16, go_sem]) rfl ⟨_, rfl, Kd.S_nil _ _ _ _ _, HZ.out.2.1.trans ((below_step (below_alloc (below_step HB.out HB1.out) _) HB3.out).mono (by have := HZ.out.2.1.size; omega))⟩
        · have hd3 : ¬ (out.length : Int) = 300 := by omega
          have HE : Hid (R = grd b a n (N - (p + 1)) (p + 1) (out ++ [x])) := Lib.hid (by rw [HD.out, if_neg (by simp), if_neg h300])
          have H299 : Hid (out.length < 300) := Lib.hid (by have := HLEN.out; omega)
          clear h300
          go_wp2_with (first
            | (go_at_call 44; (with_reducible refine (HPP _).out.mono ?_); rintro e W1 ⟨v0, rfl, hr, hb⟩; obtain ⟨A1, c1, ev⟩ := Kd.R_slice hr; subst ev; have HKW := Lib.hid (HK.out A1 c1 W1 hr hb); have HB1 := Lib.hid hb; have HRW := Lib.hid hr; have hcw : (W1.alloc (.cells #[.slice A1 x.length c1] 42)).cell? ⟨W1.heap.size, 0, none⟩ = some (.slice A1 x.length c1) := (by rw [Go.Joins.cell_of_block (cs := #[.slice A1 x.length c1]) (t := 42) (fr := (0, 0)) (by simp only [World.alloc]; exact Array.getElem?_push_size)]; rfl); have HCW := Lib.hid hcw; clear hr hb hcw)
            | (go_at_call 45; (with_reducible refine HKW.out.mono ?_); rintro e W3 ⟨rfl, hb3⟩; have HB3 := Lib.hid hb3; have hcw := cell_below HCW.out hb3; clear hb3)
            | ((with_reducible refine gate_builtin (b := .append) (xs := #[.tmp 48, .tmp 50]) rfl ?_); at_builtin; refine Kd.S_append (Kd.slice 64 (Kd.int .u16)) (w0 := W0) W0.heap.size rfl (.tmp 48) (.tmp 50) 27 42 (.slice none 0 0) 24 rfl Try.underlying27 i42 rfl (by decide) (by omega) (.slice A8 out.length c8) out x [.slice A1 x.length c1] (fun _ => True) (fun k_ => some k_ = (.slice A1 x.length c1 : Value).ownBlock) rfl rfl ?aP ?aN ?aF ?aO ?aB ?aS ?aL ?_; (case aP => exact Kd.M_row (Kd.R_mono (Kd.R_tight rfl (Kd.R_below (Kd.R_alloc (Kd.R_lower HRW.out HB.out.size) _) HB3.out)) (fun _ h_ => h_))); (case aN => exact fun k_ hk_ => ⟨trivial, fun e_ => absurd (Kd.S_lt HO.out k_ e_.symm) (by have := Kd.R_base HRW.out k_ hk_.symm; omega)⟩); (case aF => exact fun _ _ => trivial); (case aO => exact Kd.S_mono (Kd.S_below (Kd.S_alloc (Kd.S_old HO.out HB1.out) _) HB3.out) (fun k_ hk_ => ⟨trivial, fun e_ => absurd hk_.2 (by have := Kd.R_base HRW.out k_ e_.symm; omega)⟩)); (case aB => exact below_step (below_alloc (below_step HB.out HB1.out) _) HB3.out); (case aS => exact below_size (below_step (below_alloc (below_step HB.out HB1.out) _) HB3.out)); (case aL => have := H299.out; omega); intro v1 w4 ho hb4 hg4 hat4; have HO4 := Lib.hid ho; have HB4 := Lib.hid hb4; clear ho hb4 hg4 hat4))
          go_roundg (N - (p + 1))
          case measure => have := hg.out; have := HLT.out; omega
          case rel => exact ⟨p + 1, out ++ [x], Lib.hid HLT.out, Lib.hid (Nat.le_refl _), by first | rfl | go_num, HO4, HB4, Lib.hid HE.out.symm, HOK2, Lib.hid (by rw [List.length_append]; exact H299.out)⟩
    · have en : p = N := by have := hp.out; omega
      subst en
      have hb0 : decide ((p : Int) < (p : Int)) = false := decide_eq_false (by omega)
      have HE : Hid (R = (out, 0)) := Lib.hid (by rw [← HR.out, Nat.sub_self]; rfl)
      clear hp hg hlt HR
      go_wp2
      rw [HE.out]
      exact bodyPost_ret (v := .tuple #[.slice A8 out.length c8, .int .i64 0]) (by simp [results, Try.results16, go_sem]) rfl ⟨_, rfl, Kd.S_lower HO.out (by have := HZ.out.2.1.size; omega), HZ.out.2.1.trans (HB.out.mono (by have := HZ.out.2.1.size; omega))⟩

end Go.Proofs.Ytabdpdnofljkcaa.Given
