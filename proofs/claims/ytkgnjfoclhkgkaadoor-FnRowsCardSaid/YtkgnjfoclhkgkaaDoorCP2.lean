/- The sort's choice of a pivot, and its second look at a list that ascends: walked. -/
import Derived.Test.YtkgnjfoclhkgkaaDoorProg
import Derived.Below
import Derived.Deep.Draws
import Derived.Deep.AppendLies
import Derived.Maps.AppendAt
import Derived.OwnWalk
import Derived.Laws.BytesArg
import Derived.Laws.MakeOwn
import Derived.Laws.OwnMore
import Derived.Deep.OwnRows
import Derived.Tactics
import Derived.Lib.ConvBytes
import Derived.Laws.Slices
import Derived.WalkKit
import Derived.KernelRfl
import Derived.RowKit3
import Derived.Deep.LoopGhost
import Derived.Deep.QuietTactic
import Derived.BigQuiet
import Derived.WideLaws
import Derived.Deep.DeepCutAuto
import Derived.Deep.CutBlock
import Derived.Deep.RegionHeld3
import Derived.Laws.Rows
import Derived.Lib.AppendStr
import Derived.ArgAppend
import Derived.Laws.IdiomCopy
import Derived.OrdersHeld
import Derived.Laws.BitsLemmas
import Derived.RowKit
import Derived.Lib.Hide
import Derived.WalkSpells
import Derived.Test.YtkgnjfoclhkgkaaDoorWWords
import Derived.Test.YtkgnjfoclhkgkaaDoorWLast
import Derived.Test.YtkgnjfoclhkgkaaDoorWTab
import Derived.Test.YtkgnjfoclhkgkaaDoorWQPut
import Derived.Test.YtkgnjfoclhkgkaaDoorWApart
import Derived.Test.YtkgnjfoclhkgkaaDoorWArr
import Derived.Test.YtkgnjfoclhkgkaaDoorWZeros
import Derived.Test.YtkgnjfoclhkgkaaDoorWFoot
import Derived.Test.YtkgnjfoclhkgkaaDoorWKept
import Derived.Test.YtkgnjfoclhkgkaaDoorWShare
import Derived.Test.YtkgnjfoclhkgkaaDoorWN
import Derived.Test.YtkgnjfoclhkgkaaDoorWNEv
import Derived.Test.YtkgnjfoclhkgkaaDoorWMore
import Derived.Test.YtkgnjfoclhkgkaaDoorN1
import Derived.Test.YtkgnjfoclhkgkaaDoorRSORTx1
import Derived.Lib.SmallJoins
namespace Go.Proofs.YtkgnjfoclhkgkaaDoor.Given
open Go.RowKit Go.Proofs.YtkgnjfoclhkgkaaDoorW.PrintWords Go.Proofs.YtkgnjfoclhkgkaaDoorW.PrintLast Go.Proofs.YtkgnjfoclhkgkaaDoorW.PrintMore Go.Proofs.YtkgnjfoclhkgkaaDoor.NimF Go.Proofs.YtkgnjfoclhkgkaaDoor.NimGo
set_option linter.unusedVariables false
set_option linter.unusedSimpArgs false
open Go.Proofs.YtkgnjfoclhkgkaaDoor.RSORT
open Go.Proofs.YtkgnjfoclhkgkaaDoor.RSORT
theorem less_ev (a b : Int) : cmp_Less_uint32.f a b = some (decide (a < b)) := by
  simp [cmp_Less_uint32.f, cmp_isNaN_uint32.f]
def ord2 (l : List Int) (a b : Int) (s : Nat) : Option (Int × Int × Nat) :=
  if 0 ≤ a ∧ a < (l.length : Int) ∧ 0 ≤ b ∧ b < (l.length : Int) ∧ s < 1000 then (if rd l b < rd l a then some (b, a, s + 1) else some (a, b, s)) else none
set_option maxHeartbeats 1000000 in
set_option maxRecDepth 100000 in
theorem order2_calls (l : List Int) (a b : Int) (s : Nat) (a1 b1 : Int) (s1 : Nat) (M : Nat) (A0 : Option Addr) (c0 : Nat) (w0 w : World) (h : ord2 l a b s = some (a1, b1, s1)) (hr : Kd.C (Kd.int .u32) w0 A0 l.length l) (hB : Below w0.heap.size w0 w)
    (hM : w.heap[M]? = some (.cells #[.int .i64 (s : Int)] 3 (0, 0))) (hbM : w0.heap.size ≤ M) :
    Calls Tryd.prog 104 #[.slice A0 l.length c0, .int .i64 a, .int .i64 b, .pointer (some ⟨M, 0, none⟩)] w fun e w' => e = .returned (.tuple #[.int .i64 a1, .int .i64 b1]) ∧ w'.heap[M]? = some (.cells #[.int .i64 (s1 : Int)] 3 (0, 0)) ∧ Below w0.heap.size w0 w' := by
  unfold ord2 at h
  by_cases hc : 0 ≤ a ∧ a < (l.length : Int) ∧ 0 ≤ b ∧ b < (l.length : Int) ∧ s < 1000
  case neg => rw [if_neg hc] at h; cases h
  rw [if_pos hc] at h
  obtain ⟨ha0, ha1, hb0, hb1, hs⟩ := hc
  have hr1 := Kd.C_below hr hB
  obtain ⟨ad, rfl, hxa⟩ := Kd.at_int hr1 a ha0 ha1
  obtain ⟨ad', e', hxb⟩ := Kd.at_int hr1 b hb0 hb1
  obtain rfl : ad = ad' := by injection e'
  clear e' hr1 hr
  have HB := Lib.hid hB
  have HM := Lib.hid hM
  have HMM := Lib.hid hbM
  clear hB hM hbM
  by_cases hlt : rd l b < rd l a
  · rw [if_pos hlt] at h
    obtain ⟨rfl, rfl, rfl⟩ : b = a1 ∧ a = b1 ∧ s + 1 = s1 := by simpa using h
    have HL : Hid (cmp_Less_uint32.f (rd l b) (rd l a) = some true) := Lib.hid (by rw [less_ev, decide_eq_true hlt])
    clear h hlt
    go_enter Tryd.func104, Tryd.ntmps104
    go_wp2
    refine start_ (n := 9) (S := fun w' => w'.cell? (ad.add b.toNat) = some (.int .u32 (rd l b)) ∧ w'.cell? (ad.add a.toNat) = some (.int .u32 (rd l a))) (ds := []) #[false, false, false, false, false, false, false, false, false] (by kernel_rfl) rfl rfl ⟨hxb, hxa⟩ (fun hHeld => ?_)
    refine pure_ (i := 0) (N := some 10) (v := ?_) (a' := ?_) #[true, false, false, false, false, false, false, false, false] rfl rfl (by kernel_rfl) (fun _ _ _ h => h) (Or.inl ⟨by rfl, ?_⟩) ?_ ?_
    rotate_left
    · intro w'
      go_simp
      with_reducible rfl
    rotate_left
    · simp only [pt_]
      rfl
    refine pure_ (i := 1) (N := some 11) (v := ?_) (a' := ?_) #[true, true, false, false, false, false, false, false, false] rfl rfl (by kernel_rfl) (fun _ _ _ h => h) (Or.inl ⟨by rfl, ?_⟩) ?_ ?_
    rotate_left
    · intro w'
      go_simp
      with_reducible rfl
    rotate_left
    · simp only [pt_]
      rfl
    refine pure_ (i := 4) (N := some 14) (v := ?_) (a' := ?_) #[true, true, false, false, true, false, false, false, false] rfl rfl (by kernel_rfl) (fun _ _ _ h => h) (Or.inl ⟨by rfl, ?_⟩) ?_ ?_
    rotate_left
    · intro w'
      go_simp
      with_reducible rfl
    rotate_left
    · simp only [pt_]
      rfl
    refine pure_ (i := 5) (N := some 15) (v := ?_) (a' := ?_) #[true, true, false, false, true, true, false, false, false] rfl rfl (by kernel_rfl) (fun _ _ _ h => h) (Or.inl ⟨by rfl, ?_⟩) ?_ ?_
    rotate_left
    · intro w'
      go_simp
      with_reducible rfl
    rotate_left
    · simp only [pt_]
      rfl
    refine pure_ (i := 2) (N := some 12) (v := ?_) (a' := ?_) #[true, true, true, false, true, true, false, false, false] rfl rfl (by kernel_rfl) (fun _ _ _ h => h) (Or.inl ⟨by rfl, ?_⟩) ?_ ?_
    rotate_left
    · intro w'
      go_simp
      with_reducible rfl
    rotate_left
    · simp only [pt_]
      rfl
    refine pure_ (i := 6) (N := some 16) (v := ?_) (a' := ?_) #[true, true, true, false, true, true, true, false, false] rfl rfl (by kernel_rfl) (fun _ _ _ h => h) (Or.inl ⟨by rfl, ?_⟩) ?_ ?_
    rotate_left
    · intro w'
      go_simp
      with_reducible rfl
    rotate_left
    · simp only [pt_]
      rfl
    refine take_ (i := 3) (N := some 13) (v := ?_) (a' := ?_) #[true, true, true, true, true, true, true, false, false] rfl rfl (by kernel_rfl) (fun _ _ _ h => h) (Or.inl ⟨by rfl, ?_⟩) hHeld ?_ ?_
    rotate_left
    · rintro w' ⟨s0, s1⟩
      go_simp
      with_reducible rfl
    rotate_left
    · simp only [pt_]
      rfl
    refine take_ (i := 7) (N := some 17) (v := ?_) (a' := ?_) #[true, true, true, true, true, true, true, true, false] rfl rfl (by kernel_rfl) (fun _ _ _ h => h) (Or.inl ⟨by rfl, ?_⟩) hHeld ?_ ?_
    rotate_left
    · rintro w' ⟨s0, s1⟩
      go_simp
      with_reducible rfl
    rotate_left
    · simp only [pt_]
      rfl
    refine one_ (i := 8) (N := some 18) #[true, true, true, true, true, true, true, true, true] rfl rfl (by kernel_rfl) (by decide) (fun K hK => ?_)
    refine goes_ Tryd.func89 (by kernel_rfl) rfl #[.int .u32 (rd l b), .int .u32 (rd l a)] (by rfl) rfl rfl (by (try simp only [List.map_toArray, List.map_cons, List.map_nil]); first | done | rfl) ?_
    with_reducible refine (cmp_Less_uint32.calls (rd l b) (rd l a) true _ HL.out).mono ?_
    rintro e w' ⟨rfl, ⟨nd, rfl⟩⟩
    refine ⟨_, rfl, ?_⟩
    refine hK.out _ _ ⟨hHeld.1, hHeld.2⟩ (fun hHeld => ?_)
    clear hK K
    refine norm_ (a' := ?_) ?_ ?_
    rotate_left
    · show Act.put _ (some 18) _ = _
      simp only [pt_]
      rfl
    refine done_ (by kernel_rfl) ?_
    have HM2 : Hid ((World.drewN w.drew nd).heap[M]? = some (.cells #[.int .i64 (s : Int)] 3 (0, 0))) := Lib.hid HM.out
    have HB2 : Hid (Below w0.heap.size w0 (World.drewN w.drew nd)) := Lib.hid (pw_below_drewN (below_drew HB.out) _)
    clear hHeld hxa hxb HM HB
    generalize World.drewN w.drew nd = w1 at HM2 HB2 ⊢
    have hcell : w1.cell? ⟨M, 0, none⟩ = some (.int .i64 (s : Int)) := by rw [Go.Joins.cell_of_block HM2.out]; rfl
    have hfree : w1.frozen? ⟨M, 0, none⟩ = false := Go.Joins.unfrozen_of_block HM2.out 0
    have hs63 : (s : Int) < 1000 := by omega
    go_wp2
    refine bodyPost_ret (v := .tuple #[.int .i64 b, .int .i64 a]) (by simp [results, Tryd.results104, go_sem]) rfl ⟨rfl, ?_, ?_⟩
    · exact Go.Joins.block_setCell HM2.out (i := 0) _
    · exact HB2.out.setCell (p := ⟨M, 0, none⟩) HMM.out _
  · rw [if_neg hlt] at h
    obtain ⟨rfl, rfl, rfl⟩ : a = a1 ∧ b = b1 ∧ s = s1 := by simpa using h
    have HL : Hid (cmp_Less_uint32.f (rd l b) (rd l a) = some false) := Lib.hid (by rw [less_ev, decide_eq_false hlt])
    clear h hlt
    go_enter Tryd.func104, Tryd.ntmps104
    go_wp2
    refine start_ (n := 9) (S := fun w' => w'.cell? (ad.add b.toNat) = some (.int .u32 (rd l b)) ∧ w'.cell? (ad.add a.toNat) = some (.int .u32 (rd l a))) (ds := []) #[false, false, false, false, false, false, false, false, false] (by kernel_rfl) rfl rfl ⟨hxb, hxa⟩ (fun hHeld => ?_)
    refine pure_ (i := 0) (N := some 10) (v := ?_) (a' := ?_) #[true, false, false, false, false, false, false, false, false] rfl rfl (by kernel_rfl) (fun _ _ _ h => h) (Or.inl ⟨by rfl, ?_⟩) ?_ ?_
    rotate_left
    · intro w'
      go_simp
      with_reducible rfl
    rotate_left
    · simp only [pt_]
      rfl
    refine pure_ (i := 1) (N := some 11) (v := ?_) (a' := ?_) #[true, true, false, false, false, false, false, false, false] rfl rfl (by kernel_rfl) (fun _ _ _ h => h) (Or.inl ⟨by rfl, ?_⟩) ?_ ?_
    rotate_left
    · intro w'
      go_simp
      with_reducible rfl
    rotate_left
    · simp only [pt_]
      rfl
    refine pure_ (i := 4) (N := some 14) (v := ?_) (a' := ?_) #[true, true, false, false, true, false, false, false, false] rfl rfl (by kernel_rfl) (fun _ _ _ h => h) (Or.inl ⟨by rfl, ?_⟩) ?_ ?_
    rotate_left
    · intro w'
      go_simp
      with_reducible rfl
    rotate_left
    · simp only [pt_]
      rfl
    refine pure_ (i := 5) (N := some 15) (v := ?_) (a' := ?_) #[true, true, false, false, true, true, false, false, false] rfl rfl (by kernel_rfl) (fun _ _ _ h => h) (Or.inl ⟨by rfl, ?_⟩) ?_ ?_
    rotate_left
    · intro w'
      go_simp
      with_reducible rfl
    rotate_left
    · simp only [pt_]
      rfl
    refine pure_ (i := 2) (N := some 12) (v := ?_) (a' := ?_) #[true, true, true, false, true, true, false, false, false] rfl rfl (by kernel_rfl) (fun _ _ _ h => h) (Or.inl ⟨by rfl, ?_⟩) ?_ ?_
    rotate_left
    · intro w'
      go_simp
      with_reducible rfl
    rotate_left
    · simp only [pt_]
      rfl
    refine pure_ (i := 6) (N := some 16) (v := ?_) (a' := ?_) #[true, true, true, false, true, true, true, false, false] rfl rfl (by kernel_rfl) (fun _ _ _ h => h) (Or.inl ⟨by rfl, ?_⟩) ?_ ?_
    rotate_left
    · intro w'
      go_simp
      with_reducible rfl
    rotate_left
    · simp only [pt_]
      rfl
    refine take_ (i := 3) (N := some 13) (v := ?_) (a' := ?_) #[true, true, true, true, true, true, true, false, false] rfl rfl (by kernel_rfl) (fun _ _ _ h => h) (Or.inl ⟨by rfl, ?_⟩) hHeld ?_ ?_
    rotate_left
    · rintro w' ⟨s0, s1⟩
      go_simp
      with_reducible rfl
    rotate_left
    · simp only [pt_]
      rfl
    refine take_ (i := 7) (N := some 17) (v := ?_) (a' := ?_) #[true, true, true, true, true, true, true, true, false] rfl rfl (by kernel_rfl) (fun _ _ _ h => h) (Or.inl ⟨by rfl, ?_⟩) hHeld ?_ ?_
    rotate_left
    · rintro w' ⟨s0, s1⟩
      go_simp
      with_reducible rfl
    rotate_left
    · simp only [pt_]
      rfl
    refine one_ (i := 8) (N := some 18) #[true, true, true, true, true, true, true, true, true] rfl rfl (by kernel_rfl) (by decide) (fun K hK => ?_)
    refine goes_ Tryd.func89 (by kernel_rfl) rfl #[.int .u32 (rd l b), .int .u32 (rd l a)] (by rfl) rfl rfl (by (try simp only [List.map_toArray, List.map_cons, List.map_nil]); first | done | rfl) ?_
    with_reducible refine (cmp_Less_uint32.calls (rd l b) (rd l a) false _ HL.out).mono ?_
    rintro e w' ⟨rfl, ⟨nd, rfl⟩⟩
    refine ⟨_, rfl, ?_⟩
    refine hK.out _ _ ⟨hHeld.1, hHeld.2⟩ (fun hHeld => ?_)
    clear hK K
    refine norm_ (a' := ?_) ?_ ?_
    rotate_left
    · show Act.put _ (some 18) _ = _
      simp only [pt_]
      rfl
    refine done_ (by kernel_rfl) ?_
    have HM2 : Hid ((World.drewN w.drew nd).heap[M]? = some (.cells #[.int .i64 (s : Int)] 3 (0, 0))) := Lib.hid HM.out
    have HB2 : Hid (Below w0.heap.size w0 (World.drewN w.drew nd)) := Lib.hid (pw_below_drewN (below_drew HB.out) _)
    clear hHeld hxa hxb HM HB
    generalize World.drewN w.drew nd = w1 at HM2 HB2 ⊢
    go_wp2
    exact bodyPost_ret (v := .tuple #[.int .i64 a, .int .i64 b]) (by simp [results, Tryd.results104, go_sem]) rfl ⟨rfl, HM2.out, HB2.out⟩
def med (l : List Int) (a b c : Int) (s : Nat) : Option (Int × Nat) := (ord2 l a b s).bind fun x => (ord2 l x.2.1 c x.2.2).bind fun y => (ord2 l x.1 y.1 y.2.2).bind fun z => some (z.2.1, z.2.2)
set_option maxHeartbeats 1000000 in
set_option maxRecDepth 100000 in
theorem median_calls (l : List Int) (a b c : Int) (s : Nat) (r : Int) (s1 : Nat) (M : Nat) (A0 : Option Addr) (c0 : Nat) (w0 w : World) (h : med l a b c s = some (r, s1)) (hr : Kd.C (Kd.int .u32) w0 A0 l.length l) (hB : Below w0.heap.size w0 w)
    (hM : w.heap[M]? = some (.cells #[.int .i64 (s : Int)] 3 (0, 0))) (hbM : w0.heap.size ≤ M) :
    Calls Tryd.prog 101 #[.slice A0 l.length c0, .int .i64 a, .int .i64 b, .int .i64 c, .pointer (some ⟨M, 0, none⟩)] w fun e w' => e = .returned (.int .i64 r) ∧ w'.heap[M]? = some (.cells #[.int .i64 (s1 : Int)] 3 (0, 0)) ∧ Below w0.heap.size w0 w' := by
  unfold med at h
  obtain ⟨⟨a1, b1, t1⟩, h1, h⟩ := Option.bind_eq_some_iff.mp h
  obtain ⟨⟨b2, c2, t2⟩, h2, h⟩ := Option.bind_eq_some_iff.mp h
  obtain ⟨⟨a3, b3, t3⟩, h3, h⟩ := Option.bind_eq_some_iff.mp h
  obtain ⟨rfl, rfl⟩ : b3 = r ∧ t3 = s1 := by simpa using h
  have H1 := Lib.hid h1
  have H2 := Lib.hid h2
  have H3 := Lib.hid h3
  have HR := Lib.hid hr
  have HB := Lib.hid hB
  have HM := Lib.hid hM
  have HMM := Lib.hid hbM
  clear h1 h2 h3 h hr hB hM hbM
  go_enter Tryd.func101, Tryd.ntmps101
  go_wp2_with (first
    | (go_at_call 104; with_reducible refine (order2_calls l a b s a1 b1 t1 M A0 c0 w0 _ H1.out HR.out HB.out HM.out HMM.out).mono ?_; rintro e w2 ⟨rfl, hm, hb⟩; clear HM HB H1; have HM := Lib.hid hm; have HB := Lib.hid hb; clear hm hb; refine Hid.out ?_))
  refine Lib.hid ?_
  go_wp2_with (first
    | (go_at_call 104; with_reducible refine (order2_calls l b1 c t1 b2 c2 t2 M A0 c0 w0 _ H2.out HR.out HB.out HM.out HMM.out).mono ?_; rintro e w3 ⟨rfl, hm, hb⟩; clear HM HB H2; have HM := Lib.hid hm; have HB := Lib.hid hb; clear hm hb; refine Hid.out ?_))
  refine Lib.hid ?_
  go_wp2_with (first
    | (go_at_call 104; with_reducible refine (order2_calls l a1 b2 t2 a3 b3 t3 M A0 c0 w0 _ H3.out HR.out HB.out HM.out HMM.out).mono ?_; rintro e w4 ⟨rfl, hm, hb⟩; clear HM HB H3; have HM := Lib.hid hm; have HB := Lib.hid hb; clear hm hb; refine Hid.out ?_))
  refine Lib.hid ?_
  go_wp2
  go_ret
  exact ⟨rfl, HM.out, HB.out⟩
set_option maxHeartbeats 1000000 in
set_option maxRecDepth 100000 in
theorem adjacent_calls (l : List Int) (a : Int) (s : Nat) (r : Int) (s1 : Nat) (M : Nat) (A0 : Option Addr) (c0 : Nat) (w0 w : World) (ha : 1 ≤ a) (ha1 : a < 1000000) (h : med l (a - 1) a (a + 1) s = some (r, s1)) (hr : Kd.C (Kd.int .u32) w0 A0 l.length l) (hB : Below w0.heap.size w0 w)
    (hM : w.heap[M]? = some (.cells #[.int .i64 (s : Int)] 3 (0, 0))) (hbM : w0.heap.size ≤ M) :
    Calls Tryd.prog 100 #[.slice A0 l.length c0, .int .i64 a, .pointer (some ⟨M, 0, none⟩)] w fun e w' => e = .returned (.int .i64 r) ∧ w'.heap[M]? = some (.cells #[.int .i64 (s1 : Int)] 3 (0, 0)) ∧ Below w0.heap.size w0 w' := by
  have HC := fun W h1 h2 => Lib.hid (median_calls l (a - 1) a (a + 1) s r s1 M A0 c0 w0 W h hr h1 h2 hbM)
  have HB := Lib.hid hB
  have HM := Lib.hid hM
  clear h hr hB hM hbM
  go_enter Tryd.func100, Tryd.ntmps100
  go_wp2_with (first
    | (go_at_call 101; with_reducible refine (HC _ ?p1 ?p2).out.mono ?_; (case p1 => exact HB.out); (case p2 => exact HM.out); rintro e w2 ⟨rfl, hm, hb⟩; clear HM HB HC; have HM := Lib.hid hm; have HB := Lib.hid hb; clear hm hb; refine Hid.out ?_))
  refine Lib.hid ?_
  go_wp2
  go_ret
  exact ⟨rfl, HM.out, HB.out⟩
theorem box_new (w : World) (v : Value) (t : TypeId) : (w.alloc (.cells #[v] t)).heap[w.heap.size]? = some (.cells #[v] t (0, 0)) := Array.getElem?_push_size
theorem box_new0 (w : World) : (w.alloc (.cells #[.int .i64 0] 3)).heap[w.heap.size]? = some (.cells #[.int .i64 ((0 : Nat) : Int)] 3 (0, 0)) := box_new _ _ _
def hintOf (s : Nat) : Int := if s = 0 then 1 else if s = 12 then 2 else 0
def slices_choosePivotOrdered_uint32.f (l : List Int) (a b : Int) : Option (Int × Int) :=
  if 0 ≤ a ∧ a + 8 ≤ b ∧ b ≤ (l.length : Int) ∧ b < 1000 then
    (if b - a < 50 then (med l (a + (b - a) / 4) (a + (b - a) / 4 * 2) (a + (b - a) / 4 * 3) 0).bind fun m => some (m.1, hintOf m.2)
     else (med l (a + (b - a) / 4 - 1) (a + (b - a) / 4) (a + (b - a) / 4 + 1) 0).bind fun x => (med l (a + (b - a) / 4 * 2 - 1) (a + (b - a) / 4 * 2) (a + (b - a) / 4 * 2 + 1) x.2).bind fun y =>
      (med l (a + (b - a) / 4 * 3 - 1) (a + (b - a) / 4 * 3) (a + (b - a) / 4 * 3 + 1) y.2).bind fun z => (med l x.1 y.1 z.1 z.2).bind fun m => some (m.1, hintOf m.2)) else none
set_option maxHeartbeats 2000000 in
set_option maxRecDepth 100000 in
theorem slices_choosePivotOrdered_uint32.calls (A0 : Option Addr) (c0 : Nat) (l0 : List Int) (a b : Int) (r1 r2 : Int) (w : World) (hr0 : Kd.C (Kd.int .u32) w A0 l0.length l0) (hc0 : l0.length ≤ c0) (h : slices_choosePivotOrdered_uint32.f l0 a b = some (r1, r2)) :
    Calls Tryd.prog 86 #[.slice A0 l0.length c0, .int .i64 a, .int .i64 b] w fun e w' => e = .returned (.tuple #[.int .i64 r1, .int .i64 r2]) ∧ Below w.heap.size w w' := by
  unfold slices_choosePivotOrdered_uint32.f at h
  by_cases hc : 0 ≤ a ∧ a + 8 ≤ b ∧ b ≤ (l0.length : Int) ∧ b < 1000
  case neg => rw [if_neg hc] at h; cases h
  rw [if_pos hc] at h
  obtain ⟨ha, hab, hbl, hb⟩ := hc
  obtain ⟨q, hq⟩ : ∃ q : Int, q = (b - a) / 4 := ⟨_, rfl⟩
  have hqt : Int.tdiv (b - a) 4 = q := by rw [hq]; exact Int.tdiv_eq_ediv_of_nonneg (by omega)
  rw [← hq] at h
  have hq1 : 2 ≤ q := by omega
  have hq2 : q * 4 ≤ b - a := by omega
  have hn8 : b - a ≥ 8 := by omega
  have HR := Lib.hid hr0
  clear hq hr0 hc0 hbl
  by_cases h50 : b - a < 50
  · rw [if_pos h50] at h
    obtain ⟨⟨m, s⟩, hm, h⟩ := Option.bind_eq_some_iff.mp h
    obtain ⟨rfl, rfl⟩ : m = r1 ∧ hintOf s = r2 := by simpa using h
    have H1 := Lib.hid hm
    clear hm h
    go_enter Tryd.func86, Tryd.ntmps86
    go_wp2_with (first
      | (go_at_call 101; with_reducible refine (median_calls l0 (a + q) (a + q * 2) (a + q * 3) 0 m s w.heap.size A0 c0 w _ H1.out HR.out ?p1 ?p2 (Nat.le_refl _)).mono ?_; (case p1 => exact below_alloc (Below.refl _ _) _); (case p2 => exact box_new0 _); rintro e w2 ⟨rfl, hm, hb⟩; have HM := Lib.hid hm; have HB := Lib.hid hb; clear hm hb; refine Hid.out ?_))
    refine Lib.hid ?_
    rcases (by omega : s = 0 ∨ s = 12 ∨ (s ≠ 0 ∧ s ≠ 12)) with e0 | e0 | ⟨e0, e1⟩
    · have hcell : w2.cell? ⟨w.heap.size, 0, none⟩ = some (.int .i64 0) := by rw [Go.Joins.cell_of_block HM.out, e0]; rfl
      have hh : hintOf s = 1 := by rw [e0]; rfl
      clear e0
      go_wp2
      exact bodyPost_ret (v := .tuple #[.int .i64 m, .int .i64 1]) (by simp [results, Tryd.results86, go_sem]) rfl ⟨by rw [hh], HB.out⟩
    · have hcell : w2.cell? ⟨w.heap.size, 0, none⟩ = some (.int .i64 12) := by rw [Go.Joins.cell_of_block HM.out, e0]; rfl
      have hh : hintOf s = 2 := by rw [e0]; rfl
      clear e0
      go_wp2
      exact bodyPost_ret (v := .tuple #[.int .i64 m, .int .i64 2]) (by simp [results, Tryd.results86, go_sem]) rfl ⟨by rw [hh], HB.out⟩
    · have hcell : w2.cell? ⟨w.heap.size, 0, none⟩ = some (.int .i64 (s : Int)) := by rw [Go.Joins.cell_of_block HM.out]; rfl
      have hh : hintOf s = 0 := by unfold hintOf; rw [if_neg e0, if_neg e1]
      have d0 : ((s : Int) == 0) = false := beq_false_of_ne (by omega)
      have d1 : ((s : Int) == 12) = false := beq_false_of_ne (by omega)
      clear e0 e1
      go_wp2
      exact bodyPost_ret (v := .tuple #[.int .i64 m, .int .i64 0]) (by simp [results, Tryd.results86, go_sem]) rfl ⟨by rw [hh], HB.out⟩
  · rw [if_neg h50] at h
    obtain ⟨⟨x, s1⟩, hx, h⟩ := Option.bind_eq_some_iff.mp h
    obtain ⟨⟨y, s2⟩, hy, h⟩ := Option.bind_eq_some_iff.mp h
    obtain ⟨⟨z, s3⟩, hz, h⟩ := Option.bind_eq_some_iff.mp h
    obtain ⟨⟨m, s⟩, hm, h⟩ := Option.bind_eq_some_iff.mp h
    obtain ⟨rfl, rfl⟩ : m = r1 ∧ hintOf s = r2 := by simpa using h
    have H1 := Lib.hid hx; have H2 := Lib.hid hy; have H3 := Lib.hid hz; have H4 := Lib.hid hm
    have hge : b - a ≥ 50 := by omega
    clear hx hy hz hm h h50
    go_enter Tryd.func86, Tryd.ntmps86
    go_wp2_with (first
      | (go_at_call 100; with_reducible refine (adjacent_calls l0 (a + q) 0 x s1 w.heap.size A0 c0 w _ (by omega) (by omega) H1.out HR.out ?p1 ?p2 (Nat.le_refl _)).mono ?_; (case p1 => exact below_alloc (Below.refl _ _) _); (case p2 => exact box_new0 _); rintro e w2 ⟨rfl, hm, hb⟩; have HM := Lib.hid hm; have HB := Lib.hid hb; clear hm hb; refine Hid.out ?_))
    refine Lib.hid ?_
    go_wp2_with (first
      | (go_at_call 100; with_reducible refine (adjacent_calls l0 (a + q * 2) s1 y s2 w.heap.size A0 c0 w _ (by omega) (by omega) H2.out HR.out HB.out HM.out (Nat.le_refl _)).mono ?_; rintro e w3 ⟨rfl, hm, hb⟩; clear HM HB; have HM := Lib.hid hm; have HB := Lib.hid hb; clear hm hb; refine Hid.out ?_))
    refine Lib.hid ?_
    go_wp2_with (first
      | (go_at_call 100; with_reducible refine (adjacent_calls l0 (a + q * 3) s2 z s3 w.heap.size A0 c0 w _ (by omega) (by omega) H3.out HR.out HB.out HM.out (Nat.le_refl _)).mono ?_; rintro e w4 ⟨rfl, hm, hb⟩; clear HM HB; have HM := Lib.hid hm; have HB := Lib.hid hb; clear hm hb; refine Hid.out ?_))
    refine Lib.hid ?_
    go_wp2_with (first
      | (go_at_call 101; with_reducible refine (median_calls l0 x y z s3 m s w.heap.size A0 c0 w _ H4.out HR.out HB.out HM.out (Nat.le_refl _)).mono ?_; rintro e w5 ⟨rfl, hm, hb⟩; clear HM HB; have HM := Lib.hid hm; have HB := Lib.hid hb; clear hm hb; refine Hid.out ?_))
    refine Lib.hid ?_
    rcases (by omega : s = 0 ∨ s = 12 ∨ (s ≠ 0 ∧ s ≠ 12)) with e0 | e0 | ⟨e0, e1⟩
    · have hcell : w5.cell? ⟨w.heap.size, 0, none⟩ = some (.int .i64 0) := by rw [Go.Joins.cell_of_block HM.out, e0]; rfl
      have hh : hintOf s = 1 := by rw [e0]; rfl
      clear e0
      go_wp2
      exact bodyPost_ret (v := .tuple #[.int .i64 m, .int .i64 1]) (by simp [results, Tryd.results86, go_sem]) rfl ⟨by rw [hh], HB.out⟩
    · have hcell : w5.cell? ⟨w.heap.size, 0, none⟩ = some (.int .i64 12) := by rw [Go.Joins.cell_of_block HM.out, e0]; rfl
      have hh : hintOf s = 2 := by rw [e0]; rfl
      clear e0
      go_wp2
      exact bodyPost_ret (v := .tuple #[.int .i64 m, .int .i64 2]) (by simp [results, Tryd.results86, go_sem]) rfl ⟨by rw [hh], HB.out⟩
    · have hcell : w5.cell? ⟨w.heap.size, 0, none⟩ = some (.int .i64 (s : Int)) := by rw [Go.Joins.cell_of_block HM.out]; rfl
      have hh : hintOf s = 0 := by unfold hintOf; rw [if_neg e0, if_neg e1]
      have d0 : ((s : Int) == 0) = false := beq_false_of_ne (by omega)
      have d1 : ((s : Int) == 12) = false := beq_false_of_ne (by omega)
      clear e0 e1
      go_wp2
      exact bodyPost_ret (v := .tuple #[.int .i64 m, .int .i64 0]) (by simp [results, Tryd.results86, go_sem]) rfl ⟨by rw [hh], HB.out⟩
def slices_breakPatternsOrdered_uint32.f (l0 : List Int) (a1 : Int) (a2 : Int) : Option (List Int) := none
theorem slices_breakPatternsOrdered_uint32.calls (P0_ : Nat → Prop) (u9000_ : Value) (l0 : List Int) (a1 : Int) (a2 : Int)  (r : List Int) (w0 w : World) (hB : Below w0.heap.size w0 w) (ho0 : Kd.R (Kd.int .u32) 25 w w0.heap.size P0_ u9000_ l0) (h : slices_breakPatternsOrdered_uint32.f l0 a1 a2 = some r) :
    Calls Tryd.prog 85 #[u9000_, .int .i64 a1, .int .i64 a2] w fun e w' => e = .returned (.tuple #[]) ∧ Kd.R (Kd.int .u32) 25 w' w0.heap.size (fun k_ => (P0_ k_ ∨ w.heap.size ≤ k_)) u9000_ r ∧ Below w0.heap.size w0 w' ∧ Kept w w' (fun k_ => P0_ k_) := by cases h
def slices_heapSortOrdered_uint32.f (l0 : List Int) (a1 : Int) (a2 : Int) : Option (List Int) := none
theorem slices_heapSortOrdered_uint32.calls (P0_ : Nat → Prop) (u9000_ : Value) (l0 : List Int) (a1 : Int) (a2 : Int)  (r : List Int) (w0 w : World) (hB : Below w0.heap.size w0 w) (ho0 : Kd.R (Kd.int .u32) 25 w w0.heap.size P0_ u9000_ l0) (h : slices_heapSortOrdered_uint32.f l0 a1 a2 = some r) :
    Calls Tryd.prog 84 #[u9000_, .int .i64 a1, .int .i64 a2] w fun e w' => e = .returned (.tuple #[]) ∧ Kd.R (Kd.int .u32) 25 w' w0.heap.size (fun k_ => (P0_ k_ ∨ w.heap.size ≤ k_)) u9000_ r ∧ Below w0.heap.size w0 w' ∧ Kept w w' (fun k_ => P0_ k_) := by cases h
def slices_reverseRangeOrdered_uint32.f (l0 : List Int) (a1 : Int) (a2 : Int) : Option (List Int) := none
theorem slices_reverseRangeOrdered_uint32.calls (P0_ : Nat → Prop) (u9000_ : Value) (l0 : List Int) (a1 : Int) (a2 : Int)  (r : List Int) (w0 w : World) (hB : Below w0.heap.size w0 w) (ho0 : Kd.R (Kd.int .u32) 25 w w0.heap.size P0_ u9000_ l0) (h : slices_reverseRangeOrdered_uint32.f l0 a1 a2 = some r) :
    Calls Tryd.prog 87 #[u9000_, .int .i64 a1, .int .i64 a2] w fun e w' => e = .returned (.tuple #[]) ∧ Kd.R (Kd.int .u32) 25 w' w0.heap.size (fun k_ => (P0_ k_ ∨ w.heap.size ≤ k_)) u9000_ r ∧ Below w0.heap.size w0 w' ∧ Kept w w' (fun k_ => P0_ k_) := by cases h
def slices_partitionEqualOrdered_uint32.f (l0 : List Int) (a1 : Int) (a2 : Int) (a3 : Int) : Option (Int × List Int) := none
theorem slices_partitionEqualOrdered_uint32.calls (P0_ : Nat → Prop) (u9000_ : Value) (l0 : List Int) (a1 : Int) (a2 : Int) (a3 : Int) (r1 : Int) (r : List Int) (w0 w : World) (hB : Below w0.heap.size w0 w) (ho0 : Kd.R (Kd.int .u32) 25 w w0.heap.size P0_ u9000_ l0) (h : slices_partitionEqualOrdered_uint32.f l0 a1 a2 a3 = some (r1, r)) :
    Calls Tryd.prog 90 #[u9000_, .int .i64 a1, .int .i64 a2, .int .i64 a3] w fun e w' => e = .returned (.int .i64 r1) ∧ Kd.R (Kd.int .u32) 25 w' w0.heap.size (fun k_ => (P0_ k_ ∨ w.heap.size ≤ k_)) u9000_ r ∧ Below w0.heap.size w0 w' ∧ Kept w w' (fun k_ => P0_ k_) := by cases h
def asc (l : List Int) (a n : Nat) : Bool := (List.range (n - 1)).all fun i => decide (rd l ((a + i : Nat) : Int) ≤ rd l ((a + i + 1 : Nat) : Int))
def slices_partialInsertionSortOrdered_uint32.f (l0 : List Int) (a1 a2 : Int) : Option (Bool × List Int) :=
  if 0 ≤ a1 ∧ a1 < a2 ∧ a2 ≤ (l0.length : Int) ∧ a2 < 1000 then (if asc l0 a1.toNat (a2 - a1).toNat = true then some (true, l0) else none) else none
set_option maxHeartbeats 2000000 in
set_option maxRecDepth 100000 in
theorem slices_partialInsertionSortOrdered_uint32.calls (P0_ : Nat → Prop) (u9000_ : Value) (l0 : List Int) (a1 : Int) (a2 : Int) (r1 : Bool) (r2 : List Int) (w0 w : World) (hB : Below w0.heap.size w0 w) (ho0 : Kd.R (Kd.int .u32) 25 w w0.heap.size P0_ u9000_ l0) (h : slices_partialInsertionSortOrdered_uint32.f l0 a1 a2 = some (r1, r2)) :
    Calls Tryd.prog 88 #[u9000_, .int .i64 a1, .int .i64 a2] w fun e w' => e = .returned (.bool r1) ∧ Kd.R (Kd.int .u32) 25 w' w0.heap.size (fun k_ => (P0_ k_ ∨ w.heap.size ≤ k_)) u9000_ r2 ∧ Below w0.heap.size w0 w' ∧ Kept w w' (fun k_ => P0_ k_) := by
  unfold slices_partialInsertionSortOrdered_uint32.f at h
  by_cases hc : 0 ≤ a1 ∧ a1 < a2 ∧ a2 ≤ (l0.length : Int) ∧ a2 < 1000
  case neg => rw [if_neg hc] at h; cases h
  rw [if_pos hc] at h
  obtain ⟨h0, h1, h2, h3⟩ := hc
  by_cases hs : asc l0 a1.toNat (a2 - a1).toNat = true
  case neg => rw [if_neg hs] at h; cases h
  rw [if_pos hs] at h
  obtain ⟨rfl, rfl⟩ : true = r1 ∧ l0 = r2 := by simpa using h
  clear h
  obtain ⟨p, rfl⟩ : ∃ p : Nat, a1 = p := ⟨a1.toNat, by omega⟩
  obtain ⟨n, rfl⟩ : ∃ n : Nat, a2 = ((p + n : Nat) : Int) := ⟨(a2 - p).toNat, by omega⟩
  have HS : Hid (asc l0 p n = true) := Lib.hid (by rw [← hs]; congr 1 <;> omega)
  have HN : Hid (1 ≤ n ∧ p + n ≤ l0.length ∧ p + n < 1000) := Lib.hid (by omega)
  obtain ⟨A, c, eo⟩ := Kd.R_slice ho0
  subst eo
  obtain ⟨b, hb⟩ : ∃ b : Int, b = ((p + n : Nat) : Int) := ⟨_, rfl⟩
  have HBB := Lib.hid hb
  rw [← hb]
  have hb9 : b < 1000 := by omega
  have hp9 : (p : Int) < 1000 := by omega
  have HO := Lib.hid (show Kd.R (Kd.int .u32) 25 w w0.heap.size (fun k_ => (P0_ k_ ∨ w.heap.size ≤ k_)) (.slice A l0.length c) l0 from Kd.R_mono ho0 (fun k_ hk => (.inl hk)))
  have HK := Lib.hid (Kept.refl w (fun k_ => P0_ k_))
  have HB := Lib.hid hB
  clear hs h0 h1 h2 h3 ho0 hB hb
  go_enter Tryd.func88, Tryd.ntmps88
  go_wp2
  go_loopg [7, 8] 1 (fun gg v7 v8 wr => v7 = .int .i64 (p + 1) ∧ v8 = .int .i64 0 ∧ Hid (gg = 1) ∧ Hid (Kd.R (Kd.int .u32) 25 wr w0.heap.size (fun k_ => (P0_ k_ ∨ w.heap.size ≤ k_)) (.slice A l0.length c) l0) ∧ Hid (Kept w wr (fun k_ => P0_ k_)) ∧ Hid (Below w0.heap.size w0 wr))
  case atStart => exact ⟨rfl, rfl, Lib.hid rfl, HO, HK, HB⟩
  case round =>
    clear HO HK HB
    obtain ⟨rfl, rfl, HG, HO, HK, HB⟩ := hrel
    go_wp2
    go_loopg [7] n (fun gg v7 wr => ∃ x : Int, v7 = .int .i64 x ∧ Hid ((p : Int) + 1 ≤ x ∧ x ≤ b ∧ x + gg = b + 1) ∧ Hid (Kd.R (Kd.int .u32) 25 wr w0.heap.size (fun k_ => (P0_ k_ ∨ w.heap.size ≤ k_)) (.slice A l0.length c) l0) ∧ Hid (Kept w wr (fun k_ => P0_ k_)) ∧ Hid (Below w0.heap.size w0 wr))
    case atStart => exact ⟨_, rfl, Lib.hid (by have := HN.out; have := HBB.out; omega), HO, HK, HB⟩
    case round =>
    clear HO HK HB
    obtain ⟨x, rfl, HX, HO, HK, HB⟩ := hrel
    by_cases hlt : x < b
    · have hlb : decide (x < b) = true := decide_eq_true hlt
      have HLT := Lib.hid hlt
      have q0 : 0 ≤ x := by have := HX.out; omega
      have q1 : x < (l0.length : Int) := by have := HN.out; have := HBB.out; omega
      have hx9 : x < 1000 := by omega
      obtain ⟨j, hj⟩ : ∃ j : Int, x - 1 = j := ⟨_, rfl⟩
      have hjw : IntKind.i64.wrap (x - 1) = j := by rw [i64_w, ← hj]; exact Go.IntWalk.wrap64_in _ (by have := HX.out; omega)
      have q2 : 0 ≤ j := by have := HX.out; omega
      have q3 : j < (l0.length : Int) := by omega
      have HL : Hid (cmp_Less_uint32.f (rd l0 x) (rd l0 j) = some false) := Lib.hid (by
        rw [less_ev]
        have hs := HS.out
        unfold asc at hs
        have h1 := (List.all_eq_true.1 hs) (j.toNat - p) (by have := HX.out; have := HBB.out; rw [List.mem_range]; omega)
        have h2 := of_decide_eq_true h1
        rw [show ((p + (j.toNat - p) : Nat) : Int) = j by have := HX.out; omega, show ((p + (j.toNat - p) + 1 : Nat) : Int) = x by have := HX.out; omega] at h2
        rw [decide_eq_false (by omega)])
      have hr1 := (Kd.R_reads' HO.out).2.2
      obtain ⟨ad, eA, hx0⟩ := Kd.at_int hr1 x q0 q1
      subst eA
      obtain ⟨ad', e', hj0⟩ := Kd.at_int hr1 j q2 q3
      obtain rfl : ad = ad' := by injection e'
      clear e' hr1 hj hlt
      go_wp2
      refine start_ (n := 16) (S := fun w' => w'.cell? (ad.add x.toNat) = some (.int .u32 (rd l0 x)) ∧ w'.cell? (ad.add j.toNat) = some (.int .u32 (rd l0 j))) (ds := []) #[false, false, false, false, false, false, false, false, false, false, false, false, false, false, false, false] (by kernel_rfl) rfl rfl ⟨hx0, hj0⟩ (fun hHeld => ?_)
      refine pure_ (i := 0) (N := some 17) (v := ?_) (a' := ?_) #[true, false, false, false, false, false, false, false, false, false, false, false, false, false, false, false] rfl rfl (by kernel_rfl) (fun _ _ _ h => h) (Or.inl ⟨by rfl, ?_⟩) ?_ ?_
      rotate_left
      · intro w'
        go_simp
        with_reducible rfl
      rotate_left
      · simp only [pt_]
        rfl
      refine pure_ (i := 1) (N := some 18) (v := ?_) (a' := ?_) #[true, true, false, false, false, false, false, false, false, false, false, false, false, false, false, false] rfl rfl (by kernel_rfl) (fun _ _ _ h => h) (Or.inl ⟨by rfl, ?_⟩) ?_ ?_
      rotate_left
      · intro w'
        go_simp
        with_reducible rfl
      rotate_left
      · simp only [pt_]
        rfl
      refine pure_ (i := 2) (N := some 19) (v := ?_) (a' := ?_) #[true, true, true, false, false, false, false, false, false, false, false, false, false, false, false, false] rfl rfl (by kernel_rfl) (fun _ _ _ h => h) (Or.inl ⟨by rfl, ?_⟩) ?_ ?_
      rotate_left
      · intro w'
        go_simp
        with_reducible rfl
      rotate_left
      · simp only [pt_]
        rfl
      refine pure_ (i := 3) (N := some 20) (v := ?_) (a' := ?_) #[true, true, true, true, false, false, false, false, false, false, false, false, false, false, false, false] rfl rfl (by kernel_rfl) (fun _ _ _ h => h) (Or.inl ⟨by rfl, ?_⟩) ?_ ?_
      rotate_left
      · intro w'
        go_simp
        with_reducible rfl
      rotate_left
      · simp only [pt_]
        rfl
      refine pure_ (i := 4) (N := some 21) (v := ?_) (a' := ?_) #[true, true, true, true, true, false, false, false, false, false, false, false, false, false, false, false] rfl rfl (by kernel_rfl) (fun _ _ _ h => h) (Or.inl ⟨by rfl, ?_⟩) ?_ ?_
      rotate_left
      · intro w'
        go_simp
        with_reducible rfl
      rotate_left
      · simp only [pt_]
        rfl
      refine pure_ (i := 5) (N := some 22) (v := ?_) (a' := ?_) #[true, true, true, true, true, true, false, false, false, false, false, false, false, false, false, false] rfl rfl (by kernel_rfl) (fun _ _ _ h => h) (Or.inl ⟨by rfl, ?_⟩) ?_ ?_
      rotate_left
      · intro w'
        go_simp
        with_reducible rfl
      rotate_left
      · simp only [pt_]
        rfl
      refine pure_ (i := 6) (N := some 23) (v := ?_) (a' := ?_) #[true, true, true, true, true, true, true, false, false, false, false, false, false, false, false, false] rfl rfl (by kernel_rfl) (fun _ _ _ h => h) (Or.inl ⟨by rfl, ?_⟩) ?_ ?_
      rotate_left
      · intro w'
        go_simp
        with_reducible rfl
      rotate_left
      · simp only [pt_]
        rfl
      refine pure_ (i := 8) (N := some 25) (v := ?_) (a' := ?_) #[true, true, true, true, true, true, true, false, true, false, false, false, false, false, false, false] rfl rfl (by kernel_rfl) (fun _ _ _ h => h) (Or.inl ⟨by rfl, ?_⟩) ?_ ?_
      rotate_left
      · intro w'
        go_simp
        with_reducible rfl
      rotate_left
      · simp only [pt_]
        rfl
      refine pure_ (i := 9) (N := some 26) (v := ?_) (a' := ?_) #[true, true, true, true, true, true, true, false, true, true, false, false, false, false, false, false] rfl rfl (by kernel_rfl) (fun _ _ _ h => h) (Or.inl ⟨by rfl, ?_⟩) ?_ ?_
      rotate_left
      · intro w'
        go_simp
        with_reducible rfl
      rotate_left
      · simp only [pt_]
        rfl
      refine pure_ (i := 10) (N := some 27) (v := ?_) (a' := ?_) #[true, true, true, true, true, true, true, false, true, true, true, false, false, false, false, false] rfl rfl (by kernel_rfl) (fun _ _ _ h => h) (Or.inl ⟨by rfl, ?_⟩) ?_ ?_
      rotate_left
      · intro w'
        go_simp
        with_reducible rfl
      rotate_left
      · simp only [pt_]
        rfl
      refine pure_ (i := 11) (N := some 28) (v := ?_) (a' := ?_) #[true, true, true, true, true, true, true, false, true, true, true, true, false, false, false, false] rfl rfl (by kernel_rfl) (fun _ _ _ h => h) (Or.inl ⟨by rfl, ?_⟩) ?_ ?_
      rotate_left
      · intro w'
        go_simp
        with_reducible rfl
      rotate_left
      · simp only [pt_]
        rfl
      refine take_ (i := 7) (N := some 24) (v := ?_) (a' := ?_) #[true, true, true, true, true, true, true, true, true, true, true, true, false, false, false, false] rfl rfl (by kernel_rfl) (fun _ _ _ h => h) (Or.inl ⟨by rfl, ?_⟩) hHeld ?_ ?_
      rotate_left
      · rintro w' ⟨s0, s1⟩
        go_simp
        with_reducible rfl
      rotate_left
      · simp only [pt_]
        rfl
      refine take_ (i := 12) (N := some 29) (v := ?_) (a' := ?_) #[true, true, true, true, true, true, true, true, true, true, true, true, true, false, false, false] rfl rfl (by kernel_rfl) (fun _ _ _ h => h) (Or.inl ⟨by rfl, ?_⟩) hHeld ?_ ?_
      rotate_left
      · rintro w' ⟨s0, s1⟩
        go_simp
        with_reducible rfl
      rotate_left
      · simp only [pt_]
        rfl
      refine one_ (i := 13) (N := some 30) #[true, true, true, true, true, true, true, true, true, true, true, true, true, true, false, false] rfl rfl (by kernel_rfl) (by decide) (fun K hK => ?_)
      refine goes_ Tryd.func89 (by kernel_rfl) rfl #[.int .u32 (rd l0 x), .int .u32 (rd l0 j)] (by rfl) rfl rfl (by (try simp only [List.map_toArray, List.map_cons, List.map_nil]); first | done | (simp only [hjw]; rfl) | rfl) ?_
      with_reducible refine (cmp_Less_uint32.calls (rd l0 x) (rd l0 j) false _ HL.out).mono ?_
      rintro e w' ⟨rfl, ⟨nd, rfl⟩⟩
      refine ⟨_, rfl, ?_⟩
      refine hK.out _ _ ⟨hHeld.1, hHeld.2⟩ (fun hHeld => ?_)
      clear hK K
      refine norm_ (a' := ?_) ?_ ?_
      rotate_left
      · show Act.put _ (some 30) _ = _
        simp only [pt_]
        rfl
      refine pure_ (i := 14) (N := some 31) (v := ?_) (a' := ?_) #[true, true, true, true, true, true, true, true, true, true, true, true, true, true, true, false] rfl rfl (by kernel_rfl) (fun _ _ _ h => h) (Or.inl ⟨by rfl, ?_⟩) ?_ ?_
      rotate_left
      · intro w'
        go_simp
        with_reducible rfl
      rotate_left
      · simp only [pt_]
        rfl
      refine pure_ (i := 15) (N := some 32) (v := ?_) (a' := ?_) #[true, true, true, true, true, true, true, true, true, true, true, true, true, true, true, true] rfl rfl (by kernel_rfl) (fun _ _ _ h => h) (Or.inl ⟨by rfl, ?_⟩) ?_ ?_
      rotate_left
      · intro w'
        go_simp
        with_reducible rfl
      rotate_left
      · simp only [pt_]
        rfl
      refine done_ (by kernel_rfl) ?_
      go_wp2
      go_roundg (gk - 1)
      case measure => have := HX.out; have := HLT.out; omega
      case rel => exact ⟨x + 1, rfl, Lib.hid (by have := HX.out; have := HLT.out; omega), Lib.hid (by (with_reducible repeat (first | apply Kd.R_alloc | apply Kd.R_drewN | apply Kd.R_drew)); exact HO.out), Lib.hid (by repeat (first | (with_reducible first | exact HK.out | apply Kept.alloc | apply Kept.drewN | apply Kept.drew) | exact HK.out)), Lib.hid (by repeat (first | (with_reducible first | exact HB.out | apply below_alloc | apply pw_below_drewN | apply below_drew1) | exact HB.out))⟩
    · have hlb : decide (x < b) = false := decide_eq_false hlt
      have hxb : x = b := by have := HX.out; omega
      subst hxb
      clear hlt
      go_wp2
      refine start_ (n := 16) (S := fun w' => True) (ds := []) #[false, false, false, false, false, false, false, false, false, false, false, false, false, false, false, false] (by kernel_rfl) rfl rfl trivial (fun hHeld => ?_)
      refine pure_ (i := 0) (N := some 17) (v := ?_) (a' := ?_) #[true, false, false, false, false, false, false, false, false, false, false, false, false, false, false, false] rfl rfl (by kernel_rfl) (fun _ _ _ h => h) (Or.inl ⟨by rfl, ?_⟩) ?_ ?_
      rotate_left
      · intro w'
        go_simp
        with_reducible rfl
      rotate_left
      · simp only [pt_]
        rfl
      refine pure_ (i := 1) (N := some 18) (v := ?_) (a' := ?_) #[true, true, false, false, false, false, false, false, false, false, false, false, false, false, false, false] rfl rfl (by kernel_rfl) (fun _ _ _ h => h) (Or.inl ⟨by rfl, ?_⟩) ?_ ?_
      rotate_left
      · intro w'
        go_simp
        with_reducible rfl
      rotate_left
      · simp only [pt_]
        rfl
      refine pure_ (i := 2) (N := some 19) (v := ?_) (a' := ?_) #[true, true, true, false, false, false, false, false, false, false, false, false, false, false, false, false] rfl rfl (by kernel_rfl) (fun _ _ _ h => h) (Or.inl ⟨by rfl, ?_⟩) ?_ ?_
      rotate_left
      · intro w'
        go_simp
        with_reducible rfl
      rotate_left
      · simp only [pt_]
        rfl
      refine pure_ (i := 3) (N := some 20) (v := ?_) (a' := ?_) #[true, true, true, true, false, false, false, false, false, false, false, false, false, false, false, false] rfl rfl (by kernel_rfl) (fun _ _ _ h => h) (Or.inl ⟨by rfl, ?_⟩) ?_ ?_
      rotate_left
      · intro w'
        go_simp
        with_reducible rfl
      rotate_left
      · simp only [pt_]
        rfl
      refine pure_ (i := 4) (N := some 21) (v := undef) (a' := ?_) #[true, true, true, true, true, false, false, false, false, false, false, false, false, false, false, false] rfl rfl (by kernel_rfl) (fun _ _ _ h => h) (Or.inr ⟨by rfl, rfl⟩) ?_ ?_
      rotate_left
      · simp only [pt_]
        rfl
      refine pure_ (i := 5) (N := some 22) (v := undef) (a' := ?_) #[true, true, true, true, true, true, false, false, false, false, false, false, false, false, false, false] rfl rfl (by kernel_rfl) (fun _ _ _ h => h) (Or.inr ⟨by rfl, rfl⟩) ?_ ?_
      rotate_left
      · simp only [pt_]
        rfl
      refine pure_ (i := 6) (N := some 23) (v := undef) (a' := ?_) #[true, true, true, true, true, true, true, false, false, false, false, false, false, false, false, false] rfl rfl (by kernel_rfl) (fun _ _ _ h => h) (Or.inr ⟨by rfl, rfl⟩) ?_ ?_
      rotate_left
      · simp only [pt_]
        rfl
      refine pure_ (i := 7) (N := some 24) (v := undef) (a' := ?_) #[true, true, true, true, true, true, true, true, false, false, false, false, false, false, false, false] rfl rfl (by kernel_rfl) (fun _ _ _ h => h) (Or.inr ⟨by rfl, rfl⟩) ?_ ?_
      rotate_left
      · simp only [pt_]
        rfl
      refine pure_ (i := 8) (N := some 25) (v := undef) (a' := ?_) #[true, true, true, true, true, true, true, true, true, false, false, false, false, false, false, false] rfl rfl (by kernel_rfl) (fun _ _ _ h => h) (Or.inr ⟨by rfl, rfl⟩) ?_ ?_
      rotate_left
      · simp only [pt_]
        rfl
      refine pure_ (i := 9) (N := some 26) (v := undef) (a' := ?_) #[true, true, true, true, true, true, true, true, true, true, false, false, false, false, false, false] rfl rfl (by kernel_rfl) (fun _ _ _ h => h) (Or.inr ⟨by rfl, rfl⟩) ?_ ?_
      rotate_left
      · simp only [pt_]
        rfl
      refine pure_ (i := 10) (N := some 27) (v := undef) (a' := ?_) #[true, true, true, true, true, true, true, true, true, true, true, false, false, false, false, false] rfl rfl (by kernel_rfl) (fun _ _ _ h => h) (Or.inr ⟨by rfl, rfl⟩) ?_ ?_
      rotate_left
      · simp only [pt_]
        rfl
      refine pure_ (i := 11) (N := some 28) (v := undef) (a' := ?_) #[true, true, true, true, true, true, true, true, true, true, true, true, false, false, false, false] rfl rfl (by kernel_rfl) (fun _ _ _ h => h) (Or.inr ⟨by rfl, rfl⟩) ?_ ?_
      rotate_left
      · simp only [pt_]
        rfl
      refine pure_ (i := 12) (N := some 29) (v := undef) (a' := ?_) #[true, true, true, true, true, true, true, true, true, true, true, true, true, false, false, false] rfl rfl (by kernel_rfl) (fun _ _ _ h => h) (Or.inr ⟨by rfl, rfl⟩) ?_ ?_
      rotate_left
      · simp only [pt_]
        rfl
      refine pure_ (i := 13) (N := some 30) (v := undef) (a' := ?_) #[true, true, true, true, true, true, true, true, true, true, true, true, true, true, false, false] rfl rfl (by kernel_rfl) (fun _ _ _ h => h) (Or.inr ⟨by rfl, rfl⟩) ?_ ?_
      rotate_left
      · simp only [pt_]
        rfl
      refine pure_ (i := 14) (N := some 31) (v := undef) (a' := ?_) #[true, true, true, true, true, true, true, true, true, true, true, true, true, true, true, false] rfl rfl (by kernel_rfl) (fun _ _ _ h => h) (Or.inr ⟨by rfl, rfl⟩) ?_ ?_
      rotate_left
      · simp only [pt_]
        rfl
      refine pure_ (i := 15) (N := some 32) (v := ?_) (a' := ?_) #[true, true, true, true, true, true, true, true, true, true, true, true, true, true, true, true] rfl rfl (by kernel_rfl) (fun _ _ _ h => h) (Or.inl ⟨by rfl, ?_⟩) ?_ ?_
      rotate_left
      · intro w'
        go_simp
        with_reducible rfl
      rotate_left
      · simp only [pt_]
        rfl
      refine done_ (by kernel_rfl) ?_
      go_wp2
      go_ret
      exact ⟨rfl, by (with_reducible repeat (first | apply Kd.R_alloc | apply Kd.R_drewN | apply Kd.R_drew)); exact HO.out, by repeat (first | (with_reducible first | exact HB.out | apply below_alloc | apply pw_below_drewN | apply below_drew1) | exact HB.out), by repeat (first | (with_reducible first | exact HK.out | apply Kept.alloc | apply Kept.drewN | apply Kept.drew) | exact HK.out)⟩
end Go.Proofs.YtkgnjfoclhkgkaaDoor.Given
